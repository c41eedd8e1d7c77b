/- The document's side of a slot: its sum, numbers, Lay, Read. -/
import Derived.Test.YtkgiifcbimpcoaaDoorAdler
import Derived.Test.YtkgiifcbimpcoaaDoorErr1
import Derived.Lib.Hide
import Derived.Test.YtkgiifcbimpcoaaDoorQSlotPlays
import Derived.Test.YtkgiifcbimpcoaaDoorSlotA
import Derived.Test.YtkgiifcbimpcoaaDoorBlobRead
import Derived.Test.YtkgiifcbimpcoaaDoorSlotCalls
import Derived.Test.YtkgiifcbimpcoaaDoorSlot6
/-! ### The document's sum: it is the text's. -/
set_option linter.unusedVariables false
set_option linter.unusedSimpArgs false
namespace Go.Proofs.YtkgiifcbimpcoaaDoor.RSm
open Go.RowKit Go.Proofs.YtkgiifcbimpcoaaDoorW.PrintWords Go.Proofs.YtkgiifcbimpcoaaDoorW.PrintLast Go.Proofs.YtkgiifcbimpcoaaDoorW.PrintMore Go.Proofs.YtkgiifcbimpcoaaDoor.AdM
theorem take_bl (s : ByteArray) (i : Nat) (h : i < s.size) : (bl s).take (i + 1) = (bl s).take i ++ [(((s[i]'h).toNat : Nat) : Int)] := by
  have hl := bl_length s
  rw [List.take_succ_eq_append_getElem (by omega)]
  congr 2
  unfold bl
  rw [List.getElem_map, Array.getElem_toList]
  rfl
set_option maxHeartbeats 2000000 in
set_option maxRecDepth 100000 in
theorem refsum_c (s : ByteArray) (hs : s.size ≤ 20000) (w : World) : Calls Tryd.prog 18 #[.string s] w fun e w' => e = .returned (.int .u32 (sum s)) ∧ Below w.heap.size w w' := by
  go_enter Tryd.func18, Tryd.ntmps18
  go_wp2_with fail
  go_loopg [3, 4, 5] s.size (fun kq v0 v1 v2 wr => ∃ (i : Nat) (x y : Int), v0 = .int .i64 x ∧ v1 = .int .i64 y ∧ v2 = .int .i64 (i : Int) ∧ kq + i = s.size ∧ Hid (x = 1 + S ((bl s).take i)) ∧ Hid (y = (i : Int) + W ((bl s).take i)) ∧ 0 ≤ x ∧ x ≤ 256 * (i + 1) ∧ 0 ≤ y ∧ y ≤ 5120512 * (i + 1) ∧ Hid (Below w.heap.size w wr))
  case atStart => exact ⟨0, 1, 0, rfl, rfl, rfl, by omega, Lib.hid rfl, Lib.hid rfl, by omega, by omega, by omega, by omega, Lib.hid (Below.refl _ _)⟩
  case round =>
    obtain ⟨i, x, y, rfl, rfl, rfl, hk, HX, HY, hx0, hx1, hy0, hy1, HB⟩ := hrel
    cases gk with
    | zero =>
      have c1 : decide ((i : Int) < (s.size : Int)) = false := decide_eq_false (by omega)
      have c1' : decide (i < s.size) = false := decide_eq_false (by omega)
      have e1 : y.tmod 65521 = y % 65521 := Int.tmod_eq_emod_of_nonneg hy0
      have e2 : x.tmod 65521 = x % 65521 := Int.tmod_eq_emod_of_nonneg hx0
      obtain ⟨y1, hy1e⟩ : ∃ y1, y % 65521 = y1 := ⟨_, rfl⟩
      obtain ⟨x1, hx1e⟩ : ∃ x1, x % 65521 = x1 := ⟨_, rfl⟩
      rw [hy1e] at e1
      rw [hx1e] at e2
      have r1 : 0 ≤ y1 ∧ y1 < 65521 := by omega
      have r2 : 0 ≤ x1 ∧ x1 < 65521 := by omega
      have e3 : IntKind.u32.wrap y1 = y1 := by rw [IntKind.wrap_u32]; omega
      have e4 : IntKind.u32.wrap x1 = x1 := by rw [IntKind.wrap_u32]; omega
      have e5 : IntKind.u32.wrap (y1 * 65536) = y1 * 65536 := by rw [IntKind.wrap_u32]; omega
      have e6 : IntKind.u32.wrap (y1 * 65536 + x1) = y1 * 65536 + x1 := by rw [IntKind.wrap_u32]; omega
      have e7 : y1 % 4294967296 = y1 := by omega
      have e8 : x1 % 4294967296 = x1 := by omega
      have hi : i = s.size := by omega
      have hfin : y1 * 65536 + x1 = sum s := by
        have h1 := HX.out
        have h2 := HY.out
        rw [hi, List.take_of_length_le (by rw [bl_length]; exact Nat.le_refl _)] at h1 h2
        unfold sum A B
        rw [bl_length, ← h1, ← h2, hy1e, hx1e]
      have HF := Lib.hid hfin
      clear hfin hy1e hx1e hi hx0 hx1 hy0 hy1
      go_wp2_with fail
      go_ret
      exact ⟨by rw [HF.out]; rfl, HB.out⟩
    | succ k1 =>
      have hlt : i < s.size := by omega
      have c1 : decide ((i : Int) < (s.size : Int)) = true := decide_eq_true (by omega)
      have c1' : decide (i < s.size) = true := decide_eq_true hlt
      have p1 : (0 ≤ (i : Int)) = True := eq_true (by omega)
      have p2 : ((i : Int) < (s.size : Int)) = True := eq_true (by omega)
      have hbt := (s[i]'hlt).toNat_lt
      have hS : 1 + S ((bl s).take (i + 1)) = x + (((s[i]'hlt).toNat : Nat) : Int) := by
        rw [take_bl s i hlt, S_append, HX.out]; simp [S]; omega
      have hW : ((i + 1 : Nat) : Int) + W ((bl s).take (i + 1)) = y + (x + (((s[i]'hlt).toNat : Nat) : Int)) := by
        rw [take_bl s i hlt, W_append, HX.out, HY.out]; simp [W]; omega
      have HS := Lib.hid hS
      have HW := Lib.hid hW
      obtain ⟨q, hq⟩ : ∃ q : Nat, (s[i]'hlt).toNat = q := ⟨_, rfl⟩
      rw [hq] at HS HW hbt
      have hq' : wrap64 (((s[i]'hlt).toNat : Nat) : Int) = (q : Int) := by rw [hq]; unfold wrap64; omega
      have q1 : IntKind.i64.wrap (x + (q : Int)) = x + (q : Int) := IntWalk.i64_in _ (by omega)
      have q2 : IntKind.i64.wrap (y + (x + (q : Int))) = y + (x + (q : Int)) := IntWalk.i64_in _ (by omega)
      have q3 : IntKind.i64.wrap ((i : Int) + 1) = (i : Int) + 1 := IntWalk.i64_in _ (by omega)
      have HQ := Lib.hid hq
      clear hS hW hq
      go_wp2_with fail
      go_roundg k1
      case measure => exact Nat.lt_succ_self _
      case rel => exact ⟨i + 1, x + (q : Int), y + (x + (q : Int)), rfl, rfl, by simp, by omega, Lib.hid HS.out.symm, Lib.hid HW.out.symm, by omega, by omega, by omega, by omega, HB⟩
end Go.Proofs.YtkgiifcbimpcoaaDoor.RSm
/-! ### The document's numbers, and their bytes: what its functions answer. -/
set_option linter.unusedVariables false
set_option linter.unusedSimpArgs false
namespace Go.Proofs.YtkgiifcbimpcoaaDoor.Rf
open Go.RowKit Go.Proofs.YtkgiifcbimpcoaaDoorW.PrintWords Go.Proofs.YtkgiifcbimpcoaaDoor.CdM Go.Proofs.YtkgiifcbimpcoaaDoor.Slt Go.Proofs.YtkgiifcbimpcoaaDoor.QSlotPlays Go.Proofs.YtkgiifcbimpcoaaDoor.Rdr
theorem bnd {α β : Type} {x : Option α} {f : α → Option β} {v : α} {r : Option β} (hx : x = some v) (h : f v = r) : x.bind f = r := by rw [hx]; exact h
theorem itp {α : Type} {c : Prop} {_ : Decidable c} {A B r : Option α} (hc : c) (h : A = r) : (if c then A else B) = r := by rw [if_pos hc]; exact h
theorem itn {α : Type} {c : Prop} {_ : Decidable c} {A B r : Option α} (hc : ¬ c) (h : B = r) : (if c then A else B) = r := by rw [if_neg hc]; exact h
theorem ofs_append (a b : List Int) : strOfNums a ++ strOfNums b = strOfNums (a ++ b) := by
  apply ByteArray.ext
  apply Array.toList_inj.1
  rw [ByteArray.data_append, Array.toList_append]
  simp [strOfNums]
theorem four_step (k : Nat) (x : Int) (s : ByteArray) (i : Nat) (hi : i < 4) (hx : 0 ≤ x ∧ x < 4294967296) (hs : s.size ≤ 1000) (r : Option ByteArray) (h : shaleref02_Four.l0 k (x / 256) (strOfNums [x % 256] ++ s) ((i + 1 : Nat) : Int) = r) : shaleref02_Four.l0 (k + 1) x s (i : Int) = r := by
  have c1 : (i : Int) < 4 := by omega
  have e1 : Int.tmod x 256 % 256 = x % 256 := by rw [Int.tmod_eq_emod_of_nonneg hx.1]; omega
  have e2 : Int.tdiv x 256 % 4294967296 = x / 256 := by rw [Int.tdiv_eq_ediv_of_nonneg hx.1]; omega
  have e3 : wrap64 ((i : Int) + 1) = ((i + 1 : Nat) : Int) := by unfold wrap64; omega
  have e4 : (strOfNums [x % 256]).size + s.size ≤ 9223372036854775807 := by rw [strOfNums_size]; simp; omega
  simp only [shaleref02_Four.l0]
  rw [e1, e2, e3]
  exact itp c1 (bnd rfl (itp e4 h))
theorem four_at (x : Int) (hx : 0 ≤ x ∧ x < 4294967296) (k : Nat) : shaleref02_Four.f (k + 1 + 1 + 1 + 1 + 1) x = some (fourS x) := by
  unfold shaleref02_Four.f
  have z : ∀ l : List Int, l.length ≤ 10 → (strOfNums l).size ≤ 1000 := fun l h => by rw [strOfNums_size]; omega
  have z0 : (⟨#[]⟩ : ByteArray) = strOfNums [] := rfl
  rw [z0]
  refine four_step _ x _ 0 (by omega) hx (z _ (by simp)) _ ?_
  rw [ofs_append]
  refine four_step _ _ _ 1 (by omega) (by omega) (z _ (by simp)) _ ?_
  rw [ofs_append]
  refine four_step _ _ _ 2 (by omega) (by omega) (z _ (by simp)) _ ?_
  rw [ofs_append]
  refine four_step _ _ _ 3 (by omega) (by omega) (z _ (by simp)) _ ?_
  rw [ofs_append]
  simp only [shaleref02_Four.l0]
  refine itn (by decide) ?_
  unfold fourS
  congr 2
  simp only [List.append_nil, List.cons_append, List.nil_append]
  have e1 : x / 256 / 256 / 256 % 256 = x / 16777216 % 256 := by omega
  have e2 : x / 256 / 256 % 256 = x / 65536 % 256 := by omega
  rw [e1, e2]
theorem rfour_c (x : Int) (hx : 0 ≤ x ∧ x < 4294967296) (w : World) : Calls Tryd.prog 17 #[.int .u32 x] w fun e w' => e = .returned (.string (fourS x)) ∧ Below w.heap.size w w' :=
  shaleref02_Four.calls _ x _ w (four_at x hx 10)
theorem num_l : ∀ (n : Nat) (k : Nat) (acc : List Int), (num n).length ≤ k → acc.length + (num n).length ≤ 1000 → n ≤ 4611686018427387904 → shaleref04_Num.l0 k (n : Int) (strOfNums acc) = some (strOfNums (acc ++ digs n)) := by
  intro n
  induction n using Nat.strongRecOn with
  | _ n ih =>
    intro k acc hk hl hn
    have hp := num_pos n
    obtain ⟨k, rfl⟩ : ∃ m, k = m + 1 := ⟨k - 1, by omega⟩
    have z : ∀ x : Int, (strOfNums acc).size + (strOfNums [x]).size ≤ 9223372036854775807 := fun x => by rw [strOfNums_size, strOfNums_size]; simp; omega
    by_cases h : n < 128
    · have c1 : ¬ (n : Int) > 127 := by omega
      have e : (n : Int) % 256 = n := by omega
      have e2 : digs n = [(n : Int)] := by unfold digs; rw [num_small h]; rfl
      simp only [shaleref04_Num.l0]
      refine itn c1 ?_
      rw [e, e2]
      refine bnd rfl (itp (z _) ?_)
      rw [ofs_append]
    · have c1 : (n : Int) > 127 := by omega
      have hb := num_big h
      have hlen : (num n).length = (num (n / 128)).length + 1 := by rw [hb]; simp
      have e2 : digs n = ((n : Int) % 128 + 128) :: digs (n / 128) := by unfold digs; rw [hb]; simp
      have e4 : wrap64 (Int.tmod (n : Int) 128 + 128) % 256 = (n : Int) % 128 + 128 := by rw [Int.tmod_eq_emod_of_nonneg (by omega)]; unfold wrap64; omega
      have e3 : wrap64 (Int.tdiv (n : Int) 128) = ((n / 128 : Nat) : Int) := by rw [Int.tdiv_eq_ediv_of_nonneg (by omega)]; unfold wrap64; omega
      simp only [shaleref04_Num.l0]
      refine itp c1 ?_
      rw [e4, e3]
      refine bnd rfl (itp (z _) ?_)
      rw [ofs_append, ih (n / 128) (by omega) k _ (by omega) (by simp; omega) (by omega), e2]
      simp
theorem rnum_c (n : Nat) (hn : n ≤ 4611686018427387904) (w : World) : Calls Tryd.prog 36 #[.int .i64 (n : Int)] w fun e w' => e = .returned (.string (numS n)) ∧ Below w.heap.size w w' := by
  have h9 := numS_nine hn
  rw [numS_size] at h9
  refine shaleref04_Num.calls 11 (n : Int) _ w ?_
  have h := num_l n 11 [] (by omega) (by simp; omega) hn
  unfold shaleref04_Num.f
  exact h
theorem bt_at (s : ByteArray) (q : Nat) (h : q < s.size) : bt s (q : Int) = (((s[q]'h).toNat : Nat) : Int) := by
  unfold bt
  rw [dif_pos (by rw [Int.toNat_natCast]; exact h)]
  simp only [Int.toNat_natCast]
theorem pow_small (i : Nat) (h : i ≤ 8) : 1 ≤ 128 ^ i ∧ 128 ^ i ≤ 72057594037927936 := by
  have h1 : 128 ^ i ≤ 128 ^ 8 := Nat.pow_le_pow_right (by omega) h
  have h2 : 128 ^ 0 ≤ 128 ^ i := Nat.pow_le_pow_right (by omega) (Nat.zero_le _)
  have h3 : (128 : Nat) ^ 8 = 72057594037927936 := by decide
  rw [h3] at h1
  rw [Nat.pow_zero] at h2
  exact ⟨h2, h1⟩
theorem pow_seven (i : Nat) (h : i < 8) : 128 ^ i * 128 < 9223372036854775808 := by
  have h1 : 128 ^ i ≤ 128 ^ 7 := Nat.pow_le_pow_right (by omega) (by omega)
  have h3 : (128 : Nat) ^ 7 = 562949953421312 := by decide
  omega
/-- one round of Get: a byte with 128 on top -/
theorem get_more (k : Nat) (s : ByteArray) (q i n u b : Nat) (hs : s.size ≤ 4611686018427387904) (hq : q < s.size) (hb : (s[q]'hq).toNat = b) (h1 : 128 ≤ b) (hi : i < 9) (hn : n + b % 128 * u < 9223372036854775808) (hu : i < 8 → u * 128 < 9223372036854775808) (r : Option (Int × Int × Bool))
    (h : shaleref04_Get.l0 k s ((q + 1 : Nat) : Int) ((n + b % 128 * u : Nat) : Int) (((if i < 8 then u * 128 else u) : Nat) : Int) ((i + 1 : Nat) : Int) = r) : shaleref04_Get.l0 (k + 1 + 1) s (q : Int) (n : Int) (u : Int) (i : Int) = r := by
  have hl : b < 256 := by have := (s[q]'hq).toNat_lt; omega
  have c1 : (i : Int) < 9 := by exact_mod_cast hi
  have c4 : (q : Int) < (s.size : Int) := by exact_mod_cast hq
  have c2 : decide ((q : Int) < (s.size : Int)) = true := decide_eq_true c4
  have c3 : (0 : Int) ≤ (q : Int) := Int.natCast_nonneg q
  have c5 : ¬ (b : Int) < 128 := by
    intro h2
    have h3 : b < 128 := by exact_mod_cast h2
    exact absurd h1 (Nat.not_le_of_lt h3)
  have e0 : wrap64 (bt s (q : Int)) = (b : Int) := by rw [bt_at s q hq, hb]; clear hn hu h; unfold wrap64; omega
  have e1 : wrap64 (Int.tmod (b : Int) 128 * (u : Int)) = ((b % 128 * u : Nat) : Int) := by
    rw [Int.tmod_eq_emod_of_nonneg (Int.natCast_nonneg b)]
    have e : (b : Int) % 128 * (u : Int) = ((b % 128 * u : Nat) : Int) := by push_cast; rfl
    rw [e]
    generalize b % 128 * u = m at hn
    clear hu h e0 c1 c2 c3 c4 c5
    unfold wrap64; omega
  have e2 : wrap64 ((n : Int) + ((b % 128 * u : Nat) : Int)) = ((n + b % 128 * u : Nat) : Int) := by
    clear h hu e0 e1 c1 c2 c3 c4 c5
    generalize b % 128 * u = m at hn ⊢
    unfold wrap64; omega
  have e3 : wrap64 ((q : Int) + 1) = ((q + 1 : Nat) : Int) := by clear hn hu h e0 e1 e2; unfold wrap64; omega
  have e4 : wrap64 ((i : Int) + 1) = ((i + 1 : Nat) : Int) := by clear hn hu h e0 e1 e2 e3; unfold wrap64; omega
  have e5 : i < 8 → wrap64 ((u : Int) * 128) = ((u * 128 : Nat) : Int) := by
    intro h8
    have := hu h8
    clear hn hu h e0 e1 e2 e3 e4
    unfold wrap64; omega
  simp only [shaleref04_Get.l0, shaleref04_Get.j1]
  rw [e0, e1, e2, e3, e4, c2, if_pos c1, if_pos rfl, if_pos c3, if_pos c4, if_neg c5]
  by_cases h8 : i < 8
  · rw [if_pos h8] at h
    have c6 : (i : Int) < 8 := by exact_mod_cast h8
    rw [e5 h8, if_pos c6]
    exact h
  · rw [if_neg h8] at h
    have c6 : ¬ (i : Int) < 8 := fun h2 => h8 (by exact_mod_cast h2)
    rw [if_neg c6]
    exact h
/-- the last byte of a number, or a byte that ends none -/
theorem get_last (k : Nat) (s : ByteArray) (q i n u b : Nat) (hs : s.size ≤ 4611686018427387904) (hq : q < s.size) (hb : (s[q]'hq).toNat = b) (h1 : b < 128) (hi : i < 9) (hn : n + b * u < 9223372036854775808) :
    shaleref04_Get.l0 (k + 1 + 1) s (q : Int) (n : Int) (u : Int) (i : Int) = some (((n + b * u : Nat) : Int), ((q + 1 : Nat) : Int), decide (0 < b ∨ i = 0) && decide (n + b * u ≤ 4611686018427387904)) := by
  have c1 : (i : Int) < 9 := by omega
  have c2 : decide ((q : Int) < (s.size : Int)) = true := decide_eq_true (by omega)
  have c3 : (0 : Int) ≤ (q : Int) := by omega
  have c4 : (q : Int) < (s.size : Int) := by omega
  have e0 : wrap64 (bt s (q : Int)) = (b : Int) := by rw [bt_at s q hq, hb]; unfold wrap64; omega
  have e1 : wrap64 (Int.tmod (b : Int) 128 * (u : Int)) = ((b * u : Nat) : Int) := by
    rw [Int.tmod_eq_emod_of_nonneg (by omega), Int.emod_eq_of_lt (by omega) (by omega)]
    have e : (b : Int) * (u : Int) = ((b * u : Nat) : Int) := by push_cast; rfl
    rw [e]; unfold wrap64; omega
  have e2 : wrap64 ((n : Int) + ((b * u : Nat) : Int)) = ((n + b * u : Nat) : Int) := by unfold wrap64; omega
  have e3 : wrap64 ((q : Int) + 1) = ((q + 1 : Nat) : Int) := by unfold wrap64; omega
  have e4 : decide (((n + b * u : Nat) : Int) ≤ 4611686018427387904) = decide (n + b * u ≤ 4611686018427387904) := by
    by_cases h : n + b * u ≤ 4611686018427387904
    · rw [decide_eq_true h, decide_eq_true (by omega)]
    · rw [decide_eq_false h, decide_eq_false (by omega)]
  simp only [shaleref04_Get.l0, shaleref04_Get.j1]
  rw [e0, e1, e2, e3, c2, e4]
  refine itp c1 (itp rfl (itp c3 (itp c4 (itp (by omega) ?_))))
  by_cases hb0 : 0 < b
  · rw [decide_eq_true (show 0 < b ∨ i = 0 from .inl hb0), Bool.true_and]
    exact itp (by omega) rfl
  · refine itn (by omega) ?_
    by_cases hi0 : i = 0
    · rw [decide_eq_true (show 0 < b ∨ i = 0 from .inr hi0), Bool.true_and]
      exact itp (by omega) rfl
    · rw [decide_eq_false (show ¬ (0 < b ∨ i = 0) by omega), Bool.false_and]
      exact itn (by omega) rfl
theorem get_yes (s : ByteArray) (p x : Nat) (hs : s.size ≤ 4611686018427387904) (hx : x ≤ 4611686018427387904) : ∀ (y i n k : Nat), Stands s (p + i) y → n + y * 128 ^ i = x → n < 128 ^ i → (i = 0 ∨ 1 ≤ y) → (k ≥ 2 * (num y).length) → shaleref04_Get.l0 k s ((p + i : Nat) : Int) (n : Int) ((128 ^ i : Nat) : Int) (i : Int) = some ((x : Int), ((p + i + (num y).length : Nat) : Int), true) := by
  intro y
  induction y using Nat.strongRecOn with
  | _ y ih =>
    intro i n k hst hv hn hy hk
    have hp := num_pos y
    have hi8 : i ≤ 8 := by
      rcases hy with e | e
      · omega
      · exact pow_le n y i x hv hx e
    obtain ⟨k, rfl⟩ : ∃ m, k = m + 1 + 1 := ⟨k - 2, by omega⟩
    obtain ⟨hq, hb⟩ := hst.head
    have hu := pow_small i hi8
    by_cases h : y < 128
    · rw [if_pos h] at hb
      have hlen : (num y).length = 1 := by rw [num_small h]; rfl
      rw [get_last k s (p + i) i n (128 ^ i) y hs hq hb h (by omega) (by omega), hv, hlen]
      have d1 : decide (0 < y ∨ i = 0) = true := decide_eq_true (by omega)
      have d2 : decide (x ≤ 4611686018427387904) = true := decide_eq_true hx
      rw [d1, d2]; rfl
    · rw [if_neg h] at hb
      have hlen : (num y).length = (num (y / 128)).length + 1 := by rw [num_big h]; simp
      have hdm : y = y % 128 + 128 * (y / 128) := by omega
      have hval : n + y % 128 * 128 ^ i + (y / 128) * 128 ^ (i + 1) = x := by
        rw [← hv, Nat.pow_succ]
        conv => rhs; rw [hdm]
        rw [Nat.add_mul]
        have : y / 128 * (128 ^ i * 128) = 128 * (y / 128) * 128 ^ i := by rw [Nat.mul_comm (128 ^ i) 128, ← Nat.mul_assoc, Nat.mul_comm (y / 128) 128]
        omega
      have hlt2 : n + y % 128 * 128 ^ i < 128 ^ (i + 1) := by
        have h2 : y % 128 * 128 ^ i ≤ 127 * 128 ^ i := Nat.mul_le_mul_right _ (by omega)
        rw [Nat.pow_succ]; omega
      have hi7 : i < 8 := by
        have := pow_le _ _ _ _ hval hx (by omega)
        omega
      have e128 : (y % 128 + 128) % 128 = y % 128 := by omega
      refine get_more k s (p + i) i n (128 ^ i) (y % 128 + 128) hs hq hb (by omega) (by omega) (by rw [e128]; omega) (pow_seven i) _ ?_
      rw [if_pos hi7, show (y % 128 + 128) % 128 = y % 128 by omega, show 128 ^ i * 128 = 128 ^ (i + 1) from (Nat.pow_succ ..).symm]
      have := ih (y / 128) (by omega) (i + 1) _ k (by rw [← Nat.add_assoc]; exact hst.tail h) hval hlt2 (.inr (by omega)) (by omega)
      rw [show p + i + 1 = p + (i + 1) by omega, this, hlen]
      congr 3
      omega
theorem get_no (s : ByteArray) (p : Nat) (hs : s.size ≤ 4611686018427387904) (hno : NoNum s p) : ∀ (d i n k : Nat), i + d = 9 → k ≥ 2 * d + 2 → p + i ≤ s.size → Acc s p i n → n < 128 ^ i → ∃ (n' q : Nat), n' < 9223372036854775808 ∧ p ≤ q ∧ q ≤ s.size ∧ shaleref04_Get.l0 k s ((p + i : Nat) : Int) (n : Int) (((if i < 9 then 128 ^ i else 128 ^ 8) : Nat) : Int) (i : Int) = some ((n' : Int), (q : Int), false) := by
  intro d
  induction d with
  | zero =>
    intro i n k hi hk hp hA hn
    obtain ⟨k, rfl⟩ : ∃ m, k = m + 1 + 1 := ⟨k - 2, by omega⟩
    refine ⟨0, p + i, by omega, by omega, hp, ?_⟩
    simp only [shaleref04_Get.l0, shaleref04_Get.j1]
    refine itn (by omega) (itn (by decide) rfl)
  | succ d ih =>
    intro i n k hi hk hp hA hn
    obtain ⟨k, rfl⟩ : ∃ m, k = m + 1 + 1 := ⟨k - 2, by omega⟩
    have hi8 : i ≤ 8 := by omega
    have hu := pow_small i hi8
    rw [if_pos (by omega)]
    by_cases hq : p + i < s.size
    · obtain ⟨b, hb⟩ : ∃ b, (s[p + i]'hq).toNat = b := ⟨_, rfl⟩
      have hbl : b < 256 := by have := (s[p + i]'hq).toNat_lt; omega
      have hal := acc_lt n (b % 128) i hi8 hn (by omega)
      by_cases h : b < 128
      · rw [Nat.mod_eq_of_lt h] at hal
        refine ⟨n + b * 128 ^ i, p + i + 1, hal.2, by omega, by omega, ?_⟩
        rw [get_last k s (p + i) i n (128 ^ i) b hs hq hb h (by omega) hal.2]
        congr 3
        rw [Bool.and_eq_false_iff]
        by_cases hz : 0 < b ∨ i = 0
        · right
          refine decide_eq_false (fun hle => ?_)
          exact hno _ hle (hA b (hz.elim (fun e => .inr e) .inl) (Stands.one hq hb h))
        · left
          exact decide_eq_false hz
      · have hA2 := hA.more hq hb (by omega)
        obtain ⟨n', q', h1, h2, h3, h4⟩ := ih (i + 1) (n + b % 128 * 128 ^ i) k (by omega) (by omega) (by omega) hA2 hal.1
        refine ⟨n', q', h1, h2, h3, ?_⟩
        refine get_more k s (p + i) i n (128 ^ i) b hs hq hb (by omega) (by omega) hal.2 (pow_seven i) _ ?_
        rw [← h4]
        congr 2
        by_cases h8 : i < 8
        · rw [if_pos h8, if_pos (by omega), Nat.pow_succ]
        · rw [if_neg h8, if_neg (by omega), show i = 8 by omega]
    · refine ⟨0, p + i, by omega, by omega, hp, ?_⟩
      have c2 : decide (((p + i : Nat) : Int) < (s.size : Int)) = false := decide_eq_false (by omega)
      simp only [shaleref04_Get.l0, shaleref04_Get.j1]
      rw [c2]
      refine itp (by omega) (itn (by decide) rfl)
/-- what the document's Get answers at p -/
def GotAt (s : ByteArray) (p : Nat) (n q : Nat) (ok : Bool) : Prop :=
  (ok = true ∧ n ≤ 4611686018427387904 ∧ Stands s p n ∧ q = p + (num n).length) ∨ (ok = false ∧ NoNum s p ∧ n < 9223372036854775808 ∧ p ≤ q ∧ q ≤ s.size)
theorem rget_c (s : ByteArray) (p : Nat) (hs : s.size ≤ 4611686018427387904) (hp : p ≤ s.size) (w : World) : Calls Tryd.prog 38 #[.string s, .int .i64 (p : Int)] w fun e w' => ∃ n q ok, e = .returned (.tuple #[.int .i64 (n : Nat), .int .i64 (q : Nat), .bool ok]) ∧ GotAt s p n q ok ∧ Below w.heap.size w w' := by
  by_cases hex : ∃ y, y ≤ 4611686018427387904 ∧ Stands s p y
  · obtain ⟨y, hy, hst⟩ := hex
    have h9 := numS_nine hy
    rw [numS_size] at h9
    have h := get_yes s p y hs hy y 0 0 18 (by rw [Nat.add_zero]; exact hst) (by simp) (by simp) (.inl rfl) (by omega)
    rw [Nat.add_zero, Nat.pow_zero] at h
    refine (shaleref04_Get.calls 18 s (p : Int) _ _ _ w (by unfold shaleref04_Get.f; exact h)).mono ?_
    rintro e w' ⟨rfl, hb⟩
    exact ⟨y, p + (num y).length, true, rfl, .inl ⟨rfl, hy, hst, rfl⟩, hb.below⟩
  · have hno : NoNum s p := fun y h1 h2 => hex ⟨y, h1, h2⟩
    obtain ⟨n, q, h1, h2, h3, h⟩ := get_no s p hs hno 9 0 0 20 rfl (by omega) (by omega) (Acc.zero s p) (by simp)
    rw [Nat.add_zero, if_pos (by omega), Nat.pow_zero] at h
    refine (shaleref04_Get.calls 20 s (p : Int) _ _ _ w (by unfold shaleref04_Get.f; exact h)).mono ?_
    rintro e w' ⟨rfl, hb⟩
    exact ⟨n, q, false, rfl, .inr ⟨rfl, hno, h1, h2, h3⟩, hb.below⟩
end Go.Proofs.YtkgiifcbimpcoaaDoor.Rf
/-! ### The document's Lay of a slot. -/
set_option linter.unusedVariables false
set_option linter.unusedSimpArgs false
namespace Go.Proofs.YtkgiifcbimpcoaaDoor.Rf
open Go.Proofs.YtkgiifcbimpcoaaDoor.AdM (sum)
open Go.RowKit Go.Proofs.YtkgiifcbimpcoaaDoorW.PrintWords Go.Proofs.YtkgiifcbimpcoaaDoorW.PrintLast Go.Proofs.YtkgiifcbimpcoaaDoorW.PrintMore Go.Proofs.YtkgiifcbimpcoaaDoor.CdM Go.Proofs.YtkgiifcbimpcoaaDoor.Md Go.Proofs.YtkgiifcbimpcoaaDoor.Dk Go.Proofs.YtkgiifcbimpcoaaDoor.Blb Go.Proofs.YtkgiifcbimpcoaaDoor.Slt
open Go.Extern.Stop (cell)
/- sectors as the document has them: arrays of 64 bytes -/
theorem zeroB (w : World) : (zeroValue 26).run Tryd.prog w = .ok (pv pz) w := by kernel_rfl
theorem sizeB : (Tryd.prog.info? 26).map (·.size) = some 64 := by kernel_rfl
section
variable {ops : Array Oper} {rest : List Oper} {o : Oper} {a : Go.Act} {w : World} {Q : Exit → Go.Act → World → Prop}
theorem wl_buildB (hgd : o.guard = none) (ho : o.op = .build 26 #[]) (h : wpList Tryd.prog ops Q rest (a.put o.dst (pv pz)) w) : wpList Tryd.prog ops Q (o :: rest) a w :=
  Kd.event_run hgd (by unfold execOp; simp only [ho]; kernel_rfl) h
theorem wl_allocB (hgd : o.guard = none) (ho : o.op = .alloc 26) (h : wpList Tryd.prog ops Q rest (a.put o.dst (.pointer (some ⟨w.heap.size, 0, none⟩))) (w.alloc (Obj.cells (pa pz) 26 (0, 0)))) : wpList Tryd.prog ops Q (o :: rest) a w :=
  Kd.event_run hgd (by unfold execOp; simp only [ho]; kernel_rfl) h
theorem storeB (W : World) (b : Nat) (q p : Pg) (h : W.heap[b]? = some (Obj.cells (pa q) 26 (0, 0))) : (Instr.storeAt 26 (.pointer (some ⟨b, 0, none⟩)) (pv p)).run Tryd.prog W = .ok () (W.setRow b (pa p)) := by
  simp only [Instr.storeAt, Instr.sureAddr, Sem.run_bind, Sem.run_pure, Result.andThen_ok]
  exact run_storeVar_row W b 26 26 (pa q) (pa p) h (by rw [sizeB, pa_size]) (by rw [pa_size, pa_size]) (pa_one p)
theorem wl_storeBn {W : World} (q p : Pg) (hgd : o.guard = none) (x y : Operand) (ho : o.op = .store 26 x y) (hx : a.eval x = .pointer (some ⟨W.heap.size, 0, none⟩)) (hy : a.eval y = pv p)
    (h : wpList Tryd.prog ops Q rest (a.put o.dst undef) (W.alloc (Obj.cells (pa p) 26 (0, 0)))) : wpList Tryd.prog ops Q (o :: rest) a (W.alloc (Obj.cells (pa q) 26 (0, 0))) :=
  wpList_plain hgd fun K hK => by
    unfold Oper.wp execOp
    simp only [ho, hx, hy, storeB _ W.heap.size q p (heap_alloc_last _ _), World.setRow_alloc_new, Sem.run_bind, Sem.run_pure, Result.andThen_ok]
    exact hK _ _ h
theorem loadPB (w : World) (b off : Nat) (p : Pg) (hr : w.rangeAt b off (pcs p)) : (Instr.loadAt 26 (.pointer (some ⟨b, off, none⟩))).run Tryd.prog w = .ok (pv p) w := by
  rw [run_loadAt_mid w b off 26 (pcs p) _ hr Tryd.underlying26 rfl (by rw [sizeB, pcs_length])]
  rfl
theorem wl_loadPB (b off : Nat) (p : Pg) (hr : w.rangeAt b off (pcs p)) (hgd : o.guard = none) (x : Operand) (ho : o.op = .load 26 x) (hx : a.eval x = .pointer (some ⟨b, off, none⟩))
    (h : wpList Tryd.prog ops Q rest (a.put o.dst (pv p)) w) : wpList Tryd.prog ops Q (o :: rest) a w :=
  Kd.event_run hgd (by unfold execOp; simp only [ho, hx, loadPB w b off p hr, Sem.run_bind, Sem.run_pure, Result.andThen_ok]) h
theorem wg_loadPB (b off : Nat) (p : Pg) (hr : w.rangeAt b off (pcs p)) (hw : Region.wanted o (yielded ops a.tmps) = true) (x : Operand) (ho : o.op = .load 26 x) (hx : a.eval x = .pointer (some ⟨b, off, none⟩))
    (h : wpList Tryd.prog ops Q rest (a.put o.dst (pv p)) w) : wpList Tryd.prog ops Q (o :: rest) a w :=
  wg_run hw (by unfold execOp; simp only [ho, hx, loadPB w b off p hr, Sem.run_bind, Sem.run_pure, Result.andThen_ok]) h
end
theorem range_row (w : World) (b : Nat) (p : Pg) (h : w.heap[b]? = some (Obj.cells (pa p) 26 (0, 0))) : w.rangeAt b 0 (pcs p) := by
  intro j u hu
  rw [Nat.zero_add, Err.cell_of_blk h, ← hu, ← pa_list, Array.getElem?_toList]
theorem run_loadB (w : World) (b : Nat) (p : Pg) (h : w.heap[b]? = some (Obj.cells (pa p) 26 (0, 0))) : (Instr.loadAt 26 (.pointer (some ⟨b, 0, none⟩))).run Tryd.prog w = .ok (pv p) w := loadPB w b 0 p (range_row w b p h)
theorem wl_storeB {ops : Array Oper} {rest : List Oper} {o : Oper} {a : Act} {w : World} {Q : Exit → Act → World → Prop} (b : Nat) (q p : Pg) (hp : w.heap[b]? = some (Obj.cells (pa q) 26 (0, 0))) (hgd : o.guard = none) (x y : Operand) (ho : o.op = .store 26 x y) (hx : a.eval x = .pointer (some ⟨b, 0, none⟩)) (hy : a.eval y = pv p)
    (h : wpList Tryd.prog ops Q rest (a.put o.dst undef) (w.setRow b (pa p))) : wpList Tryd.prog ops Q (o :: rest) a w :=
  wpList_plain hgd fun K hK => by
    unfold Oper.wp execOp
    simp only [ho, hx, hy, storeB w b q p hp, Sem.run_bind, Sem.run_pure, Result.andThen_ok]
    exact hK _ _ h
/-- the first i bytes of a text, and none behind them -/
def cutP (s : ByteArray) (hs : s.size = 64) (i : Nat) : Pg := ⟨s.data.toList.take i ++ List.replicate (64 - i) 0, by
  have h : s.data.toList.length = s.size := by simp
  rw [List.length_append, List.length_take, List.length_replicate, h]; omega⟩
theorem cut_zero (s : ByteArray) (hs : s.size = 64) : cutP s hs 0 = pz := by
  apply Subtype.ext
  show [] ++ List.replicate 64 (0 : UInt8) = List.replicate 64 0
  rfl
theorem cut_next (s : ByteArray) (hs : s.size = 64) (i : Nat) (hi : i < 64) (b : UInt8) (hb : s.data.toList[i]? = some b) : pset (cutP s hs i) i b = cutP s hs (i + 1) := by
  have hl : s.data.toList.length = s.size := by simp
  apply Subtype.ext
  show (s.data.toList.take i ++ List.replicate (64 - i) 0).set i b = s.data.toList.take (i + 1) ++ List.replicate (64 - (i + 1)) 0
  obtain ⟨h1, h2⟩ := List.getElem?_eq_some_iff.1 hb
  rw [List.take_succ_eq_append_getElem (by omega), h2, show 64 - i = (64 - (i + 1)) + 1 by omega, List.replicate_succ]
  have hlt : (s.data.toList.take i).length = i := by rw [List.length_take]; omega
  rw [List.set_append_right _ _ (by omega), hlt, Nat.sub_self, List.set_cons_zero, List.append_assoc]
  rfl
theorem cut_full (s : ByteArray) (hs : s.size = 64) : (cutP s hs 64).1 = s.data.toList := by
  have hl : s.data.toList.length = s.size := by simp
  show s.data.toList.take 64 ++ List.replicate 0 0 = _
  rw [List.take_of_length_le (by omega)]
  simp
theorem pad_head {g x y z : Int} (hr : Slt.Rt g x y z) (s : ByteArray) (hs : s.size = 60) (h : s.data.toList = (fourS g ++ numS x.toNat ++ numS y.toNat ++ numS z.toNat).data.toList ++ List.replicate (60 - (fourS g ++ numS x.toNat ++ numS y.toNat ++ numS z.toNat).size) 0) : s = sub (headP g x y z) 0 60 := by
  have hrs := refS_size hr
  have hf := fourS_size g
  have l1 := sl_length (fourS g)
  have l2 := sl_length (refS x y z)
  have e : fourS g ++ numS x.toNat ++ numS y.toNat ++ numS z.toNat = fourS g ++ refS x y z := by unfold refS; simp only [ByteArray.append_assoc]
  rw [e] at h
  apply ByteArray.ext
  apply Array.toList_inj.1
  rw [sub_list, List.drop_zero, head_list hr, h, ByteArray.data_append, Array.toList_append, ByteArray.size_append, hf]
  rw [List.take_append, List.take_of_length_le (by rw [List.length_append]; omega), List.take_replicate, List.length_append, l1, l2, hf]
  congr 2
  omega
theorem lay_cut {g x y z : Int} (s : ByteArray) (h1 : s = sub (headP g x y z) 0 60) (hs : (s ++ fourS (sum s)).size = 64) : cutP (s ++ fourS (sum s)) hs 64 = layP g x y z := by
  apply Subtype.ext
  rw [cut_full, lay_list, ByteArray.data_append, Array.toList_append, h1, sub_list, List.drop_zero]
theorem rlay_results (tmps : Array Value) (W : World) (b : Nat) (p : Pg) (h4 : tmps.getD 2 undef = .pointer (some ⟨b, 0, none⟩)) (h : W.heap[b]? = some (Obj.cells (pa p) 26 (0, 0))) : (results Tryd.f16 tmps).run Tryd.prog W = .ok (pv p) W := by
  have hl : (loadVar 26 ⟨b, 0, none⟩).run Tryd.prog W = .ok (pv p) W := run_loadVar_row W b 26 26 (pa p) (0, 0) _ h Tryd.underlying26 rfl (by rw [sizeB, pa_size])
  have h4' : tmps[2]?.getD undef = .pointer (some ⟨b, 0, none⟩) := by simpa using h4
  simp [results, Tryd.results16, asAddr, h4', hl]
/-- what the walk of Lay keeps -/
def Kr (w : World) (B : Nat) (g x y z : Int) (w' : World) : Prop := (w'.cell? ⟨B, 0, none⟩ = some (.int .u32 g) ∧ w'.cell? ⟨B, 1, none⟩ = some (.int .i64 x) ∧ w'.cell? ⟨B, 2, none⟩ = some (.int .i64 y) ∧ w'.cell? ⟨B, 3, none⟩ = some (.int .u32 z)) ∧ Below w.heap.size w w'
theorem Kr.on {w : World} {B : Nat} {g x y z : Int} {w1 w2 : World} (h : Kr w B g x y z w1) (k : Below w1.heap.size w1 w2) : Kr w B g x y z w2 :=
  ⟨⟨(k.cell (lt_of h.1.1)).trans h.1.1, (k.cell (lt_of h.1.2.1)).trans h.1.2.1, (k.cell (lt_of h.1.2.2.1)).trans h.1.2.2.1, (k.cell (lt_of h.1.2.2.2)).trans h.1.2.2.2⟩, h.2.trans (k.mono h.2.size)⟩
theorem rnum_v (x : Int) (h0 : 0 ≤ x) (h1 : x ≤ 4611686018427387904) (w : World) : Calls Tryd.prog 36 #[.int .i64 x] w fun e w' => e = .returned (.string (numS x.toNat)) ∧ Below w.heap.size w w' := by
  have h := rnum_c x.toNat (by omega) w
  rw [show ((x.toNat : Nat) : Int) = x by omega] at h
  exact h
set_option maxHeartbeats 8000000 in
set_option maxRecDepth 100000 in
theorem rlay_c (g x y z : Int) (w : World) (hr : Slt.Rt g x y z) : Calls Tryd.prog 16 #[.agg (slA g x y z)] w fun e w' => e = .returned (pv (layP g x y z)) ∧ Below w.heap.size w w' := by
  have HRt := Lib.hid hr
  have l1 := numS_nine (n := x.toNat) (by have := hr.x1; omega)
  have l2 := numS_nine (n := y.toNat) (by have := hr.y1; omega)
  have l3 := numS_nine (n := z.toNat) (by have := hr.z1; omega)
  have hfs := fourS_size g
  have k1 : (9223372036854775807 < (fourS g).size + (numS x.toNat).size) = False := eq_false (by omega)
  have k2 : (9223372036854775807 < (fourS g).size + (numS x.toNat).size + (numS y.toNat).size) = False := eq_false (by omega)
  have k3 : (9223372036854775807 < (fourS g).size + (numS x.toNat).size + (numS y.toNat).size + (numS z.toNat).size) = False := eq_false (by omega)
  have hzz : IntKind.i64.wrap z = z := IntWalk.i64_in _ (by have := hr.z0; have := hr.z1; omega)
  obtain ⟨hg0, hg1, hx0, hx1, hy0, hy1, hz0, hz1⟩ := hr
  have HFs := Lib.hid hfs
  clear hfs
  go_enter Tryd.func16, Tryd.ntmps16
  go_wp2_with (first | (refine wl_allocB rfl rfl ?_))
  obtain ⟨HSl, HRs, HB1⟩ := alloc2 w (Obj.cells (slA g x y z) 24 (0, 0)) (Obj.cells (pa pz) 26 (0, 0))
  (try rw [alloc_size])
  obtain ⟨B, hB⟩ : ∃ B, w.heap.size = B := ⟨_, rfl⟩
  rw [hB] at HSl HRs HB1
  simp only [hB]
  have HBW := Lib.hid hB
  generalize ((w.alloc (Obj.cells (slA g x y z) 24 (0, 0))).alloc (Obj.cells (pa pz) 26 (0, 0))) = w1 at *
  have HK := Lib.hid (show Kr w1 B g x y z w1.drew from ⟨rs_keep HSl.out (Below.refl _ _).drew, (Below.refl _ _).drew⟩)
  go_region_held3 (fun w' => (w'.cell? ⟨B, 0, none⟩ = some (.int .u32 g) ∧ w'.cell? ⟨B, 1, none⟩ = some (.int .i64 x) ∧ w'.cell? ⟨B, 2, none⟩ = some (.int .i64 y) ∧ w'.cell? ⟨B, 3, none⟩ = some (.int .u32 z)) ∧ Below w1.heap.size w1 w')
    (first | exact HK.out | assumption | exact Kr.on (by assumption) hb)
    (first
      | (go_at_call 17; refine (rfour_c g ⟨by omega, by omega⟩ _).mono ?_; rintro e w' ⟨rfl, hb⟩)
      | (go_at_call 36; refine (rnum_v _ (by omega) (by omega) _).mono ?_; rintro e w' ⟨rfl, hb⟩))
  rename_i hHeld
  have HB9 := Lib.hid hHeld.2
  have HR9 := blk_to HRs hHeld.2
  have HX9 := Lib.hid (HB1.out.trans (hHeld.2.mono (by have := HBW.out; have := HB1.out.size; omega)))
  obtain ⟨t0, ht0⟩ : ∃ t0, fourS g ++ numS x.toNat ++ numS y.toNat ++ numS z.toNat = t0 := ⟨_, rfl⟩
  have hts : t0.size ≤ 31 := by rw [← ht0]; simp only [ByteArray.size_append]; have := HFs.out; omega
  have HT0 := Lib.hid ht0
  rw [ht0]
  clear k1 k2 k3 hzz ht0 hHeld HB9 HK
  go_wp2_with fail
  go_loopg [3] (60 - t0.size) (fun kq v0 wr => ∃ (s : ByteArray), v0 = .string s ∧ kq + s.size = 60 ∧ wr = w' ∧ t0.size ≤ s.size ∧ Hid (s.data.toList = t0.data.toList ++ List.replicate (s.size - t0.size) 0))
  case atStart => exact ⟨t0, rfl, by omega, rfl, Nat.le_refl _, Lib.hid (by rw [Nat.sub_self]; simp)⟩
  case round =>
    obtain ⟨s, rfl, hk, rfl, hle, HS⟩ := hrel
    cases gk with
    | zero =>
      have hs60 : s.size = 60 := by omega
      have c1 : decide ((s.size : Int) < 60) = false := decide_eq_false (by omega)
      have c1' : decide (s.size < 60) = false := decide_eq_false (by omega)
      have HPd := Lib.hid (pad_head HRt.out s hs60 (by rw [HT0.out, HS.out, hs60]))
      have HS60 := Lib.hid hs60
      go_wp2_with fail
      refine (RSm.refsum_c s (by omega) _).mono ?_
      rintro e w10 ⟨rfl, hd⟩
      have HR10 := blk_to HR9 hd
      have HX10 := Lib.hid (HX9.out.trans (hd.mono (by have := HBW.out; have := HX9.out.size; omega)))
      have hsl := sum_lt s
      clear hd HR9 HX9 c1 c1'
      go_wp2_with fail
      refine (rfour_c (sum s) hsl _).mono ?_
      rintro e w11 ⟨rfl, hd⟩
      have HR11 := blk_to HR10 hd
      have HX11 := Lib.hid (HX10.out.trans (hd.mono (by have := HBW.out; have := HX10.out.size; omega)))
      have hs2 : (s ++ fourS (sum s)).size = 64 := by rw [ByteArray.size_append, fourS_size, hs60]
      have HCut := Lib.hid (lay_cut s HPd.out hs2)
      have k5 : (9223372036854775807 < s.size + (fourS (sum s)).size) = False := eq_false (by rw [fourS_size]; omega)
      have k6 : (9223372036854775807 < 60 + (fourS (sum s)).size) = False := eq_false (by rw [fourS_size]; omega)
      clear hd HR10 HX10 hsl
      go_wp2_with (first | (refine wl_allocB rfl rfl ?_))
      obtain ⟨tt, htt⟩ : ∃ tt, s ++ fourS (sum s) = tt := ⟨_, rfl⟩
      have HC := Lib.hid (show ∃ hs : tt.size = 64, cutP tt hs 64 = layP g x y z from by subst htt; exact ⟨hs2, HCut.out⟩)
      rw [htt]
      clear htt hs2 k5 k6 HCut HPd
      obtain ⟨HSz, hcut⟩ : ∃ H : Hid (tt.size = 64), cutP tt H.out 64 = layP g x y z := by obtain ⟨a, b⟩ := HC.out; exact ⟨Lib.hid a, b⟩
      have hb12 : Below w11.heap.size w11 (w11.alloc (Obj.cells (pa pz) 26 (0, 0))) := (Below.refl _ _).alloc (Nat.le_refl _) _
      have HR12 := blk_to HR11 hb12
      have HX12 := Lib.hid (HX11.out.trans (hb12.mono (by have := HBW.out; have := HX11.out.size; omega)))
      have HP12 := Lib.hid (show (w11.alloc (Obj.cells (pa pz) 26 (0, 0))).heap[w11.heap.size]? = some (Obj.cells (pa (cutP tt HSz.out 0)) 26 (0, 0)) from by rw [cut_zero]; exact heap_alloc_last w11 _)
      have hBP : B + 1 < w11.heap.size := Err.lt_of_block HR11.out
      obtain ⟨P, hP⟩ : ∃ P, w11.heap.size = P := ⟨_, rfl⟩
      rw [hP] at HP12 hBP
      simp only [hP]
      generalize (w11.alloc (Obj.cells (pa pz) 26 (0, 0))) = w12 at *
      have HCu := Lib.hid hcut
      clear hb12 hP HR11 HX11 hcut hk hle HS HC
      go_loopg [5] 64 (fun kq v0 wr => ∃ (i : Nat), v0 = .int .i64 (i : Int) ∧ kq + i = 64 ∧ Hid (wr.heap[P]? = some (Obj.cells (pa (cutP tt HSz.out i)) 26 (0, 0))) ∧ Hid (wr.heap[B + 1]? = some (Obj.cells (pa pz) 26 (0, 0))) ∧ Hid (Below B w wr))
      case atStart => exact ⟨0, rfl, rfl, HP12, HR12, HX12⟩
      case round =>
        clear HP12 HR12 HX12
        obtain ⟨i, rfl, hk, HP, HR, HX⟩ := hrel
        cases gk with
        | zero =>
          have hi : i = 64 := by omega
          subst hi
          have HPl := Lib.hid (show wr.heap[P]? = some (Obj.cells (pa (layP g x y z)) 26 (0, 0)) from by rw [← HCu.out]; exact HP.out)
          have hrg := range_row wr P (layP g x y z) HPl.out
          have HRg := Lib.hid hrg
          have hX0 := HX.out.size
          have hBr : B + 1 < wr.heap.size := Err.lt_of_block HR.out
          have hBw := HBW.out
          clear hrg
          go_wp2_with (first
            | (refine wl_loadPB P 0 (layP g x y z) HRg.out rfl _ rfl rfl ?_)
            | (refine wl_storeB (B + 1) pz (layP g x y z) HR.out rfl _ _ rfl rfl rfl ?_))
          (try simp only [Exit.inBlock, Exit.then])
          refine bodyPost_ret (v := pv (layP g x y z)) ?_ rfl ?_
          · exact rlay_results _ _ (B + 1) (layP g x y z) rfl (setRow_heap wr (B + 1) _ _ _ _ HR.out)
          have hm := mod_row wr (B + 1) (pa (layP g x y z))
          exact ⟨rfl, HX.out.trans (hm.below (by omega) (fun i hi (e : i = B + 1) => by omega))⟩
        | succ k1 =>
          have hi64 : i < 64 := by omega
          have hlt : i < tt.size := by have := HSz.out; omega
          have c1 : decide ((i : Int) < 64) = true := decide_eq_true (by omega)
          have c1' : decide (i < 64) = true := decide_eq_true hi64
          have p1 : (0 ≤ (i : Int)) = True := eq_true (by omega)
          have p2 : ((i : Int) < (tt.size : Int)) = True := eq_true (by omega)
          have p3 : ((i : Int) < 64) = True := eq_true (by omega)
          have q5 : IntKind.i64.wrap ((i : Int) + 1) = (i : Int) + 1 := IntWalk.i64_in _ (by omega)
          obtain ⟨b0, hb0⟩ : ∃ b0 : UInt8, (cutP tt HSz.out i).1[i]? = some b0 := ⟨_, List.getElem?_eq_getElem (by rw [(cutP tt HSz.out i).2]; exact hi64)⟩
          have hcell : wr.cell? ⟨P, i, none⟩ = some (.int .u8 ((b0.toNat : Nat) : Int)) := by
            rw [Err.cell_of_blk HP.out]
            unfold pa
            rw [List.getElem?_toArray, List.getElem?_map, hb0]
            rfl
          have hfz : wr.frozen? ⟨P, i, none⟩ = false := by simp [World.frozen?, HP.out]
          clear hb0
          go_wp2_with fail
          have hbt : tt.data.toList[i]? = some (tt[i]'hlt) := by
            have hl : tt.data.toList.length = tt.size := by simp
            rw [List.getElem?_eq_getElem (by omega), Array.getElem_toList]
            rfl
          have hm : Mod (· = P) wr (wr.setCell ⟨P, i, none⟩ (.int .u8 (((tt[i]'hlt).toNat : Nat) : Int))) := (Mod.refl (· = P) wr).set ⟨P, i, none⟩ _ (.inl rfl)
          have HP' := Lib.hid (show (wr.setCell ⟨P, i, none⟩ (.int .u8 (((tt[i]'hlt).toNat : Nat) : Int))).heap[P]? = some (Obj.cells (pa (cutP tt HSz.out (i + 1))) 26 (0, 0)) from by
            rw [← cut_next tt HSz.out i hi64 _ hbt, ← pa_set]
            exact set1 HP.out i _)
          have HR' := Lib.hid (hm.blk HR.out (by omega))
          have hBr : B + 1 < wr.heap.size := Err.lt_of_block HR.out
          have HX' := Lib.hid (HX.out.trans (hm.below (by omega) (fun j hj (e : j = P) => by omega)))
          go_roundg k1
          case measure => exact Nat.lt_succ_self _
          case rel => exact ⟨i + 1, by simp, by omega, HP', HR', HX'⟩
    | succ k1 =>
      have c1 : decide ((s.size : Int) < 60) = true := decide_eq_true (by omega)
      have c1' : decide (s.size < 60) = true := decide_eq_true (by omega)
      have k4 : (9223372036854775807 < s.size + 1) = False := eq_false (by omega)
      go_wp2_with fail
      go_roundg k1
      case measure => exact Nat.lt_succ_self _
      case rel =>
        have e1 : (s ++ (⟨#[0]⟩ : ByteArray)).size = s.size + 1 := by rw [ByteArray.size_append]; rfl
        refine ⟨s ++ ⟨#[0]⟩, rfl, by omega, rfl, by omega, Lib.hid ?_⟩
        rw [e1, ByteArray.data_append, Array.toList_append, HS.out, show s.size + 1 - t0.size = (s.size - t0.size) + 1 by omega, List.replicate_succ', List.append_assoc]
end Go.Proofs.YtkgiifcbimpcoaaDoor.Rf
/-! ### The document's Read of a sector: its parts. -/
set_option linter.unusedVariables false
set_option linter.unusedSimpArgs false
namespace Go.Proofs.YtkgiifcbimpcoaaDoor.Rf
open Go.Proofs.YtkgiifcbimpcoaaDoor.AdM (sum)
open Go.RowKit Go.Proofs.YtkgiifcbimpcoaaDoorW.PrintWords Go.Proofs.YtkgiifcbimpcoaaDoorW.PrintLast Go.Proofs.YtkgiifcbimpcoaaDoorW.PrintMore Go.Proofs.YtkgiifcbimpcoaaDoor.CdM Go.Proofs.YtkgiifcbimpcoaaDoor.Md Go.Proofs.YtkgiifcbimpcoaaDoor.Dk Go.Proofs.YtkgiifcbimpcoaaDoor.Blb Go.Proofs.YtkgiifcbimpcoaaDoor.Slt
open Go.Extern.Stop (cell)
theorem pg_at (p : Pg) (i : Nat) (h : i < 64) : p.1[i]? = some (p.1[i]'(by rw [p.2]; exact h)) := List.getElem?_eq_getElem _
theorem sub_bt (p : Pg) (o n i : Nat) (h : i < n) (ho : o + n ≤ 64) (b : UInt8) (hb : p.1[o + i]? = some b) : bt (sub p o n) (i : Int) = ((b.toNat : Nat) : Int) := by
  apply bt_of
  rw [sub_list, List.getElem?_take, if_pos h, List.getElem?_drop]
  exact hb
set_option maxHeartbeats 4000000 in
set_option maxRecDepth 100000 in
theorem rfour2_c (p : Pg) (q : Nat) (hq : q ≤ 60) (w : World) : Calls Tryd.prog 37 #[pv p, .int .i64 (q : Int)] w fun e w' => e = .returned (.int .u32 (numV (sub p q 4))) ∧ Below w.heap.size w w' := by
  obtain ⟨b0, h0⟩ : ∃ b : UInt8, p.1[q + 0]? = some b := ⟨_, pg_at p _ (by omega)⟩
  obtain ⟨b1, h1⟩ : ∃ b : UInt8, p.1[q + 1]? = some b := ⟨_, pg_at p _ (by omega)⟩
  obtain ⟨b2, h2⟩ : ∃ b : UInt8, p.1[q + 2]? = some b := ⟨_, pg_at p _ (by omega)⟩
  obtain ⟨b3, h3⟩ : ∃ b : UInt8, p.1[q + 3]? = some b := ⟨_, pg_at p _ (by omega)⟩
  have e0 := sub_bt p q 4 0 (by omega) (by omega) b0 h0
  have e1 := sub_bt p q 4 1 (by omega) (by omega) b1 h1
  have e2 := sub_bt p q 4 2 (by omega) (by omega) b2 h2
  have e3 := sub_bt p q 4 3 (by omega) (by omega) b3 h3
  have hv : numV (sub p q 4) = ((b0.toNat : Nat) : Int) * 16777216 + ((b1.toNat : Nat) : Int) * 65536 + ((b2.toNat : Nat) : Int) * 256 + ((b3.toNat : Nat) : Int) := by
    unfold numV
    rw [← e0, ← e1, ← e2, ← e3]; rfl
  rw [hv]
  have hc : ∀ (W : World) (B : Nat), W.heap[B]? = some (Obj.cells (pa p) 26 (0, 0)) → ∀ (i : Nat) (b : UInt8), p.1[i]? = some b → W.cell? ⟨B, i, none⟩ = some (.int .u8 ((b.toNat : Nat) : Int)) := by
    intro W B h i b hb
    rw [Err.cell_of_blk h]
    unfold pa
    rw [List.getElem?_toArray, List.getElem?_map, hb]
    rfl
  have n0 : 0 ≤ ((b0.toNat : Nat) : Int) ∧ ((b0.toNat : Nat) : Int) ≤ 255 := by have := b0.toNat_lt; omega
  have n1 : 0 ≤ ((b1.toNat : Nat) : Int) ∧ ((b1.toNat : Nat) : Int) ≤ 255 := by have := b1.toNat_lt; omega
  have n2 : 0 ≤ ((b2.toNat : Nat) : Int) ∧ ((b2.toNat : Nat) : Int) ≤ 255 := by have := b2.toNat_lt; omega
  have n3 : 0 ≤ ((b3.toNat : Nat) : Int) ∧ ((b3.toNat : Nat) : Int) ≤ 255 := by have := b3.toNat_lt; omega
  generalize hx0 : ((b0.toNat : Nat) : Int) = x0 at *
  generalize hx1 : ((b1.toNat : Nat) : Int) = x1 at *
  generalize hx2 : ((b2.toNat : Nat) : Int) = x2 at *
  generalize hx3 : ((b3.toNat : Nat) : Int) = x3 at *
  have c0 := fun (W : World) (B : Nat) h => (hc W B h _ _ h0).trans (by rw [hx0])
  have c1 := fun (W : World) (B : Nat) h => (hc W B h _ _ h1).trans (by rw [hx1])
  have c2 := fun (W : World) (B : Nat) h => (hc W B h _ _ h2).trans (by rw [hx2])
  have c3 := fun (W : World) (B : Nat) h => (hc W B h _ _ h3).trans (by rw [hx3])
  have hpv := pv_eq p
  clear hc hx0 hx1 hx2 hx3 h0 h1 h2 h3 e0 e1 e2 e3 hv
  go_enter Tryd.func37, Tryd.ntmps37
  go_wp2_with fail
  have HB := Lib.hid (heap_alloc_last w (Obj.cells (pa p) 26 (0, 0)))
  have hb1 : Below w.heap.size w (w.alloc (Obj.cells (pa p) 26 (0, 0))) := (Below.refl _ _).alloc (Nat.le_refl _) _
  obtain ⟨B, hB⟩ : ∃ B, w.heap.size = B := ⟨_, rfl⟩
  rw [hB] at HB hb1
  simp only [hB]
  generalize (w.alloc (Obj.cells (pa p) 26 (0, 0))) = w1 at *
  have d0 := c0 w1 B HB.out
  have d1 := c1 w1 B HB.out
  have d2 := c2 w1 B HB.out
  have d3 := c3 w1 B HB.out
  have HK := Lib.hid (show (w1.drew.cell? ⟨B, q, none⟩ = some (.int .u8 x0) ∧ w1.drew.cell? ⟨B, q + 1, none⟩ = some (.int .u8 x1) ∧ w1.drew.cell? ⟨B, q + 2, none⟩ = some (.int .u8 x2) ∧ w1.drew.cell? ⟨B, q + 3, none⟩ = some (.int .u8 x3)) ∧ Below w1.heap.size w1 w1.drew from ⟨⟨d0, d1, d2, d3⟩, (Below.refl _ _).drew⟩)
  have q1 : IntKind.i64.wrap ((q : Int) + 1) = (q : Int) + 1 := IntWalk.i64_in _ (by omega)
  have q2 : IntKind.i64.wrap ((q : Int) + 2) = (q : Int) + 2 := IntWalk.i64_in _ (by omega)
  have q3 : IntKind.i64.wrap ((q : Int) + 3) = (q : Int) + 3 := IntWalk.i64_in _ (by omega)
  have i1 : ((q : Int) + 1).toNat = q + 1 := by omega
  have i2 : ((q : Int) + 2).toNat = q + 2 := by omega
  have i3 : ((q : Int) + 3).toNat = q + 3 := by omega
  have l0 : ((q : Int) < 64) = True := eq_true (by omega)
  have l1 : ((q : Int) + 1 < 64) = True := eq_true (by omega)
  have l2 : ((q : Int) + 2 < 64) = True := eq_true (by omega)
  have l3 : ((q : Int) + 3 < 64) = True := eq_true (by omega)
  have g0 : (0 ≤ (q : Int)) = True := eq_true (by omega)
  have g1 : (0 ≤ (q : Int) + 1) = True := eq_true (by omega)
  have g2 : (0 ≤ (q : Int) + 2) = True := eq_true (by omega)
  have g3 : (0 ≤ (q : Int) + 3) = True := eq_true (by omega)
  have HB1 := Lib.hid hb1
  clear c0 c1 c2 c3 HB d0 d1 d2 d3 hpv hb1
  go_region_held3 (fun w' => (w'.cell? ⟨B, q, none⟩ = some (.int .u8 x0) ∧ w'.cell? ⟨B, q + 1, none⟩ = some (.int .u8 x1) ∧ w'.cell? ⟨B, q + 2, none⟩ = some (.int .u8 x2) ∧ w'.cell? ⟨B, q + 3, none⟩ = some (.int .u8 x3)) ∧ Below w1.heap.size w1 w')
    (first | exact HK.out | assumption)
    (fail)
  rename_i hHeld
  have hB9 := hHeld.2
  have ev : IntKind.u32.wrap (IntKind.u32.wrap (IntKind.u32.wrap (IntKind.u32.wrap (IntKind.u32.wrap (IntKind.u32.wrap (IntKind.u32.wrap x0 * 256) + IntKind.u32.wrap x1) * 256) + IntKind.u32.wrap x2) * 256) + IntKind.u32.wrap x3) = x0 * 16777216 + x1 * 65536 + x2 * 256 + x3 := by
    have hw : ∀ n : Int, 0 ≤ n → n < 4294967296 → IntKind.u32.wrap n = n := fun n a b => IntWalk.u32_in n ⟨a, by omega⟩
    rw [hw x0 (by omega) (by omega), hw x1 (by omega) (by omega), hw x2 (by omega) (by omega), hw x3 (by omega) (by omega), hw (x0 * 256) (by omega) (by omega), hw (x0 * 256 + x1) (by omega) (by omega), hw ((x0 * 256 + x1) * 256) (by omega) (by omega), hw ((x0 * 256 + x1) * 256 + x2) (by omega) (by omega), hw (((x0 * 256 + x1) * 256 + x2) * 256) (by omega) (by omega), hw _ (by omega) (by omega)]
    omega
  clear hHeld q1 q2 q3 i1 i2 i3 l0 l1 l2 l3 g0 g1 g2 g3 HK
  rw [ev]
  go_wp2_with fail
  go_ret
  exact ⟨rfl, by rw [hB]; exact HB1.out.trans (hB9.mono (by have := HB1.out.size; omega))⟩
end Go.Proofs.YtkgiifcbimpcoaaDoor.Rf
/-! ### The document's Read of a sector: the program's slot. -/
set_option linter.unusedVariables false
set_option linter.unusedSimpArgs false
namespace Go.Proofs.YtkgiifcbimpcoaaDoor.Rf
open Go.Proofs.YtkgiifcbimpcoaaDoor.AdM (sum)
open Go.RowKit Go.Proofs.YtkgiifcbimpcoaaDoorW.PrintWords Go.Proofs.YtkgiifcbimpcoaaDoorW.PrintLast Go.Proofs.YtkgiifcbimpcoaaDoorW.PrintMore Go.Proofs.YtkgiifcbimpcoaaDoor.CdM Go.Proofs.YtkgiifcbimpcoaaDoor.Md Go.Proofs.YtkgiifcbimpcoaaDoor.Dk Go.Proofs.YtkgiifcbimpcoaaDoor.Blb Go.Proofs.YtkgiifcbimpcoaaDoor.Slt Go.Proofs.YtkgiifcbimpcoaaDoor.Rdr
open Go.Extern.Stop (cell)
theorem sub_cut (p : Pg) : sub p 0 60 = sub p 0 4 ++ sub p 4 56 := by
  apply ByteArray.ext
  apply Array.toList_inj.1
  rw [ByteArray.data_append, Array.toList_append, sub_list, sub_list, sub_list, List.drop_zero]
  exact List.take_add (l := p.1) (i := 4) (j := 56)
theorem sub_all (p : Pg) : (sub p 0 64).extract 0 60 = sub p 0 60 := by
  apply ByteArray.ext
  apply Array.toList_inj.1
  rw [ByteArray.data_extract, Array.toList_extract, List.extract_eq_take_drop, List.drop_zero, sub_list, sub_list, List.drop_zero, List.take_take]
  rfl
theorem rlay_parse {g x y z : Int} {p : Pg} (h : Slt.Rt g x y z) (e : layP g x y z = p) : Stands (sub p 0 60) 4 x.toNat ∧ Stands (sub p 0 60) (4 + (num x.toNat).length) y.toNat ∧ Stands (sub p 0 60) (4 + (num x.toNat).length + (num y.toNat).length) z.toNat := by
  obtain ⟨c, hc⟩ := lay_mid h
  rw [e] at hc
  have h4 : (sub p 0 4).size = 4 := sub_size _ _ _ (by decide)
  have s1 := Rdr.stands_mid (sub p 0 4) (numS y.toNat ++ numS z.toNat ++ c) x.toNat
  have s2 := Rdr.stands_mid (sub p 0 4 ++ numS x.toNat) (numS z.toNat ++ c) y.toNat
  have s3 := Rdr.stands_mid (sub p 0 4 ++ numS x.toNat ++ numS y.toNat) c z.toNat
  rw [sub_cut, hc]
  simp only [ByteArray.size_append, numS_size, h4, ByteArray.append_assoc] at s1 s2 s3 ⊢
  exact ⟨s1, s2, by rw [Nat.add_assoc]; exact s3⟩
theorem stands_le {s : ByteArray} {q y : Nat} (h : Stands s q y) : q + (num y).length ≤ s.size := by
  have hp := num_pos y
  obtain ⟨h1, _⟩ := h ((num y).length - 1) (by omega)
  omega
theorem GotAt.le {s : ByteArray} {p n q : Nat} {ok : Bool} (h : GotAt s p n q ok) : q ≤ s.size := by
  rcases h with ⟨_, _, h, rfl⟩ | ⟨_, _, _, _, h⟩
  · exact stands_le h
  · exact h
theorem GotAt.of {s : ByteArray} {p n q y : Nat} {ok : Bool} (h : GotAt s p n q ok) (hy : y ≤ 4611686018427387904) (hs : Stands s p y) : ok = true ∧ n = y ∧ q = p + (num y).length := by
  rcases h with ⟨h1, _, h, rfl⟩ | ⟨_, h, _⟩
  · have := stands_one h hs
    subst this
    exact ⟨h1, rfl, rfl⟩
  · exact absurd hs (h y hy)
theorem got_slot {p : Pg} {n1 q1 n2 q2 n3 q3 : Nat} {b1 b2 b3 : Bool} (h1 : GotAt (sub p 0 60) 4 n1 q1 b1) (h2 : GotAt (sub p 0 60) q1 n2 q2 b2) (h3 : GotAt (sub p 0 60) q2 n3 q3 b3) (s : Sl) (hs : s.Rt) (e : s.lay = p) :
    b1 = true ∧ b2 = true ∧ b3 = true ∧ (n3 : Int) ≤ 4294967295 ∧ s = ⟨numV (sub p 0 4), (n1 : Int), (n2 : Int), (n3 : Int)⟩ := by
  obtain ⟨m1, m2, m3⟩ := rlay_parse hs e
  have eg : numV (sub p 0 4) = s.g := by
    have e4 := lay_gen hs
    have e' : layP s.g s.x s.y s.z = p := e
    rw [e'] at e4
    exact e4
  obtain ⟨g0, g1, x0, x1, y0, y1, z0, z1⟩ := hs
  obtain ⟨r1, rfl, rfl⟩ := h1.of (by omega) m1
  obtain ⟨r2, rfl, rfl⟩ := h2.of (by omega) m2
  obtain ⟨r3, rfl, rfl⟩ := h3.of (by omega) m3
  refine ⟨r1, r2, r3, by omega, ?_⟩
  rw [eg]
  cases s
  simp only [Sl.mk.injEq, true_and]
  simp only at x0 y0 z0
  omega
/-- none: a number isn't there, or is too great -/
theorem got_bad {p : Pg} {n1 q1 n2 q2 n3 q3 : Nat} {b1 b2 b3 : Bool} (h1 : GotAt (sub p 0 60) 4 n1 q1 b1) (h2 : GotAt (sub p 0 60) q1 n2 q2 b2) (h3 : GotAt (sub p 0 60) q2 n3 q3 b3) (hb : ¬ (b1 = true ∧ b2 = true ∧ b3 = true ∧ (n3 : Int) ≤ 4294967295)) : slotOf p = Sl.zero :=
  slotOf_none fun s hs e => by
    obtain ⟨r1, r2, r3, r4, _⟩ := got_slot h1 h2 h3 s hs e
    exact hb ⟨r1, r2, r3, r4⟩
theorem got_other {p : Pg} {n1 q1 n2 q2 n3 q3 : Nat} {b1 b2 b3 : Bool} (h1 : GotAt (sub p 0 60) 4 n1 q1 b1) (h2 : GotAt (sub p 0 60) q1 n2 q2 b2) (h3 : GotAt (sub p 0 60) q2 n3 q3 b3) (hn : Slt.Rt (numV (sub p 0 4)) n1 n2 n3 → layP (numV (sub p 0 4)) n1 n2 n3 ≠ p) : slotOf p = Sl.zero :=
  slotOf_none fun s hs e => by
    obtain ⟨_, _, _, _, rfl⟩ := got_slot h1 h2 h3 s hs e
    exact hn hs e
theorem rbad12 {p : Pg} (h : numV (sub p 60 4) ≠ sum (sub p 0 60)) : slotOf p = Sl.zero ∧ slotBad p = 12 := by
  have e0 := slotOf_sum h
  refine ⟨e0, ?_⟩
  unfold slotBad; rw [e0, if_neg (by show ¬ (0 : Int) < 0; omega), if_neg h]
theorem rbad13 {p : Pg} (h : numV (sub p 60 4) = sum (sub p 0 60)) (e0 : slotOf p = Sl.zero) : slotBad p = 13 := by
  unfold slotBad; rw [e0, if_neg (by show ¬ (0 : Int) < 0; omega), if_pos h]
theorem rbad0 {p : Pg} {g x y z : Int} (h : Slt.Rt g x y z) (e : layP g x y z = p) : slotOf p = ⟨g, x, y, z⟩ ∧ slotBad p = 0 := by
  have e0 := slotOf_lay (s := ⟨g, x, y, z⟩) h e
  refine ⟨e0, ?_⟩
  unfold slotBad; rw [e0, if_pos h.g0]
/- steps -/
theorem reads_subB (W : World) (g : Nat) (p : Pg) (o n : Nat) (h : W.heap[g]? = some (Obj.cells (pa p) 26 (0, 0))) (hn : o + n ≤ 64) : ReadsRow ((Kd.int .u8).K W) 1 W (some ⟨g, o, none⟩) n (((bi p).drop o).take n) := by
  refine ⟨by rw [List.length_take, List.length_drop, bi_length]; omega, by omega, fun _ => ⟨_, rfl, fun j y hj => ⟨[.int .u8 y], rfl, ?_, fun i u hu => ?_⟩⟩⟩
  · rfl
  · rcases i with _ | i
    · simp at hu
      subst hu
      rw [Addr.add_mid, Nat.mul_one, Nat.add_zero]
      rw [Err.cell_of_blk h]
      rw [List.getElem?_take] at hj
      split at hj
      · rw [List.getElem?_drop] at hj
        simp only [bi, List.getElem?_map] at hj
        simp only [pa, cell, List.getElem?_toArray, List.getElem?_map]
        cases hq : p.1[o + j]? with
        | none => rw [hq] at hj; cases hj
        | some b => rw [hq] at hj; simp at hj; simp [cell, hj]
      · cases hj
    · simp at hu
theorem conv_subB (W : World) (g : Nat) (p : Pg) (o n c : Nat) (h : W.heap[g]? = some (Obj.cells (pa p) 26 (0, 0))) (hn : o + n ≤ 64) : (convert 46 9 (.slice (some ⟨g, o, none⟩) n c)).run Tryd.prog W = .ok (.string (sub p o n)) W := by
  have hT := Kd.C_of_reads (h1 := fun _ => rfl) (Kd.reads_of_C (enc := Value.int .u8) (d := (0 : Int)) (h1 := fun _ => rfl) (reads_subB W g p o n h hn))
  have hcv := Kd.C_string (P := Tryd.prog) (src := 46) (dst := 9) (e := 5) (c := c) Tryd.underlying46 Tryd.underlying5 Tryd.underlying9 hT
  rw [sub_nums] at hcv
  exact hcv
theorem exec_loadB {ρ : Operand → Value} {o : Oper} {x : Operand} {W : World} {b : Nat} {p : Pg} (ho : o.op = .load 26 x) (hx : ρ x = .pointer (some ⟨b, 0, none⟩)) (hp : W.heap[b]? = some (Obj.cells (pa p) 26 (0, 0))) : (execOp ρ o).run Tryd.prog W = .ok (.value (pv p)) W := by
  unfold execOp; simp only [ho, hx, run_loadB W b p hp, Sem.run_bind, Sem.run_pure, Result.andThen_ok]
theorem eqGB (op : BinOp) (x y : Operand) (p q : Pg) (w : World) : (eqGuard op 26 x y (pv p) (pv q)).run Tryd.prog w = .ok () w := run_eqGuard_agg w op 26 x y _ _ (by kernel_rfl)
theorem neqB (p q : Pg) (w : World) : (binOp .neq 26 (pv p) (pv q)).run Tryd.prog w = .ok (.bool (p.1 != q.1)) w := by
  have e : pv p = .agg (p.1.map cell).toArray := rfl
  have e2 : pv q = .agg (q.1.map cell).toArray := rfl
  rw [e, e2, run_neq_struct, run_equalIn_bytes w 9998 26 5 64 Tryd.underlying26 Tryd.underlying5 size5 p.1 q.1 p.2 q.2]
  rfl
theorem exec_neqB {ρ : Operand → Value} {o : Oper} {x y : Operand} {W : World} {p q : Pg} {b : Bool} (ho : o.op = .binOp .neq 26 x y 26) (hx : ρ x = pv p) (hy : ρ y = pv q) (hb : (p.1 != q.1) = b) : (execOp ρ o).run Tryd.prog W = .ok (.value (.bool b)) W := by
  unfold execOp; simp only [ho, hx, hy, eqGB .neq x y p q W, neqB p q W, Sem.run_bind, Sem.run_pure, Result.andThen_ok, hb]
section
variable {ops : Array Oper} {rest : List Oper} {o : Oper} {a : Go.Act} {w : World} {Q : Exit → Go.Act → World → Prop}
theorem wl_convB (g : Nat) (p : Pg) (f n c : Nat) (h : w.heap[g]? = some (Obj.cells (pa p) 26 (0, 0))) (hn : f + n ≤ 64) (hgd : o.guard = none) (x : Operand) (ho : o.op = .convert 46 9 x) (hx : a.eval x = .slice (some ⟨g, f, none⟩) n c)
    (hk : wpList Tryd.prog ops Q rest (a.put o.dst (.string (sub p f n))) w) : wpList Tryd.prog ops Q (o :: rest) a w :=
  Kd.event_run hgd (by unfold execOp; simp only [ho, hx, conv_subB w g p f n c h hn, Sem.run_bind, Sem.run_pure, Result.andThen_ok]) hk
theorem sizeQ : (Tryd.prog.info? 24).map (·.size) = some 4 := by kernel_rfl
theorem storeQ (w : World) (b : Nat) (g0 x0 y0 z0 g x y z : Int) (h : w.heap[b]? = some (Obj.cells (slA g0 x0 y0 z0) 24 (0, 0))) : (Instr.storeAt 24 (.pointer (some ⟨b, 0, none⟩)) (.agg (slA g x y z))).run Tryd.prog w = .ok () (w.setRow b (slA g x y z)) := by
  simp only [Instr.storeAt, Instr.sureAddr, Sem.run_bind, Sem.run_pure, Result.andThen_ok]
  exact run_storeVar_row w b 24 24 (slA g0 x0 y0 z0) (slA g x y z) h sizeQ rfl (sl_one g x y z)
theorem wl_storeQ (b : Nat) (g0 x0 y0 z0 g x y z : Int) (hp : w.heap[b]? = some (Obj.cells (slA g0 x0 y0 z0) 24 (0, 0))) (hgd : o.guard = none) (p q : Operand) (ho : o.op = .store 24 p q) (hx : a.eval p = .pointer (some ⟨b, 0, none⟩)) (hy : a.eval q = .agg (slA g x y z))
    (h : wpList Tryd.prog ops Q rest (a.put o.dst undef) (w.setRow b (slA g x y z))) : wpList Tryd.prog ops Q (o :: rest) a w :=
  wpList_plain hgd fun K hK => by
    unfold Oper.wp execOp
    simp only [ho, hx, hy, storeQ w b g0 x0 y0 z0 g x y z hp, Sem.run_bind, Sem.run_pure, Result.andThen_ok]
    exact hK _ _ h
theorem wl_storeQn {W : World} (g0 x0 y0 z0 g x y z : Int) (hgd : o.guard = none) (p q : Operand) (ho : o.op = .store 24 p q) (hx : a.eval p = .pointer (some ⟨W.heap.size, 0, none⟩)) (hy : a.eval q = .agg (slA g x y z))
    (h : wpList Tryd.prog ops Q rest (a.put o.dst undef) (W.alloc (Obj.cells (slA g x y z) 24 (0, 0)))) : wpList Tryd.prog ops Q (o :: rest) a (W.alloc (Obj.cells (slA g0 x0 y0 z0) 24 (0, 0))) := by
  refine wl_storeQ W.heap.size g0 x0 y0 z0 g x y z (heap_alloc_last _ _) hgd p q ho hx hy ?_
  rw [World.setRow_alloc_new]
  exact h
theorem wl_allocQ (hgd : o.guard = none) (ho : o.op = .alloc 24) (h : wpList Tryd.prog ops Q rest (a.put o.dst (.pointer (some ⟨w.heap.size, 0, none⟩))) (w.alloc (Obj.cells (slA 0 0 0 0) 24 (0, 0)))) : wpList Tryd.prog ops Q (o :: rest) a w :=
  Kd.event_run hgd (by unfold execOp; simp only [ho]; kernel_rfl) h
theorem run_loadQ (w : World) (b : Nat) (g x y z : Int) (h : w.heap[b]? = some (Obj.cells (slA g x y z) 24 (0, 0))) : (Instr.loadAt 24 (.pointer (some ⟨b, 0, none⟩))).run Tryd.prog w = .ok (.agg (slA g x y z)) w := by
  simp only [Instr.loadAt, Instr.sureAddr, Sem.run_bind, Sem.run_pure, Result.andThen_ok]
  exact run_loadVar_row w b 24 24 (slA g x y z) (0, 0) _ h Tryd.underlying24 rfl (by kernel_rfl)
theorem wl_loadQ (b : Nat) (g x y z : Int) (hp : w.heap[b]? = some (Obj.cells (slA g x y z) 24 (0, 0))) (hgd : o.guard = none) (p : Operand) (ho : o.op = .load 24 p) (hx : a.eval p = .pointer (some ⟨b, 0, none⟩))
    (h : wpList Tryd.prog ops Q rest (a.put o.dst (.agg (slA g x y z))) w) : wpList Tryd.prog ops Q (o :: rest) a w :=
  Kd.event_run hgd (by unfold execOp; simp only [ho, hx, run_loadQ w b g x y z hp, Sem.run_bind, Sem.run_pure, Result.andThen_ok]) h
theorem wl_loadB (b : Nat) (p : Pg) (hp : w.heap[b]? = some (Obj.cells (pa p) 26 (0, 0))) (hgd : o.guard = none) (x : Operand) (ho : o.op = .load 26 x) (hx : a.eval x = .pointer (some ⟨b, 0, none⟩))
    (h : wpList Tryd.prog ops Q rest (a.put o.dst (pv p)) w) : wpList Tryd.prog ops Q (o :: rest) a w :=
  wl_loadPB b 0 p (range_row w b p hp) hgd x ho hx h
end
theorem exec_loadQ {ρ : Operand → Value} {o : Oper} {x : Operand} {W : World} {b : Nat} {g m y z : Int} (ho : o.op = .load 24 x) (hx : ρ x = .pointer (some ⟨b, 0, none⟩)) (hp : W.heap[b]? = some (Obj.cells (slA g m y z) 24 (0, 0))) : (execOp ρ o).run Tryd.prog W = .ok (.value (.agg (slA g m y z))) W := by
  unfold execOp; simp only [ho, hx, run_loadQ W b g m y z hp, Sem.run_bind, Sem.run_pure, Result.andThen_ok]
theorem qrow_at (W : World) (b : Nat) (g0 x0 y0 z0 g x y z : Int) (h : W.heap[b]? = some (Obj.cells (slA g0 x0 y0 z0) 24 (0, 0))) : (W.setRow b (slA g x y z)).heap[b]? = some (Obj.cells (slA g x y z) 24 (0, 0)) :=
  setRow_heap W b _ _ _ _ h
theorem rread_results (tmps : Array Value) (W : World) (b : Nat) (g x y z : Int) (e : Value) (h4 : tmps.getD 2 undef = .pointer (some ⟨b, 0, none⟩)) (h5 : tmps.getD 3 undef = e) (h : W.heap[b]? = some (Obj.cells (slA g x y z) 24 (0, 0))) : (results Tryd.f19 tmps).run Tryd.prog W = .ok (.tuple #[.agg (slA g x y z), e]) W := by
  have hl : (loadVar 24 ⟨b, 0, none⟩).run Tryd.prog W = .ok (.agg (slA g x y z)) W := run_loadVar_row W b 24 24 (slA g x y z) (0, 0) _ h Tryd.underlying24 rfl (by kernel_rfl)
  have h4' : tmps[2]?.getD undef = .pointer (some ⟨b, 0, none⟩) := by simpa using h4
  have h5' : tmps[3]?.getD undef = e := by simpa using h5
  simp [results, Tryd.results19, asAddr, h4', h5', hl]
/-- what every way out of Read leaves -/
theorem rread_end {p : Pg} {g x y z bad : Int} {w wr : World} {B : Nat} (hw : w.heap.size = B) (HR : wr.heap[B + 1]? = some (Obj.cells (slA 0 0 0 0) 24 (0, 0))) (HX : Below B w wr) (h : slotOf p = ⟨g, x, y, z⟩ ∧ slotBad p = bad) :
    (Ending.returned (.tuple #[.agg (slA g x y z), .int .i64 bad]) = .returned (.tuple #[.agg (slotOf p).a, .int .i64 (slotBad p)])) ∧ Below w.heap.size w (wr.setRow (B + 1) (slA g x y z)) := by
  rw [h.1, h.2, hw]
  have hb := Err.lt_of_block HR
  exact ⟨rfl, HX.trans ((mod_row wr (B + 1) (slA g x y z)).below (by omega) (fun i hi (e : i = B + 1) => by omega))⟩
set_option maxHeartbeats 8000000 in
set_option maxRecDepth 100000 in
theorem rread_c (p : Pg) (w : World) : Calls Tryd.prog 19 #[pv p] w fun e w' => e = .returned (.tuple #[.agg (slotOf p).a, .int .i64 (slotBad p)]) ∧ Below w.heap.size w w' := by
  have hpv := pv_eq p
  go_enter Tryd.func19, Tryd.ntmps19
  go_wp2_with (first | (refine wl_allocQ rfl rfl ?_))
  obtain ⟨HPg, HRs, HB1⟩ := alloc2 w (Obj.cells (pa p) 26 (0, 0)) (Obj.cells (slA 0 0 0 0) 24 (0, 0))
  (try rw [alloc_size])
  obtain ⟨B, hB⟩ : ∃ B, w.heap.size = B := ⟨_, rfl⟩
  rw [hB] at HPg HRs HB1
  simp only [hB]
  generalize ((w.alloc (Obj.cells (pa p) 26 (0, 0))).alloc (Obj.cells (slA 0 0 0 0) 24 (0, 0))) = w1 at *
  have hcv := conv_subB w1 B p 0 64 64 HPg.out (by decide)
  go_wp2_with fail
  rw [hcv, Result.andThen_ok]
  clear hcv
  go_wp2_with fail
  have HBd := Lib.hid (show Below w1.heap.size w1 w1.drew from (Below.refl _ _).drew)
  have HPd := blk_to HPg HBd.out
  have hT64 : (sub p 0 64).size = 64 := sub_size _ _ _ (by decide)
  have hTU := sub_all p
  have hU60 : (sub p 0 60).size = 60 := sub_size _ _ _ (by decide)
  have HU := Lib.hid (rfl : sub p 0 60 = sub p 0 60)
  obtain ⟨T, hT⟩ : ∃ T, sub p 0 64 = T := ⟨_, rfl⟩
  obtain ⟨U, hU⟩ : ∃ U, sub p 0 60 = U := ⟨_, rfl⟩
  rw [hT] at hT64 hTU
  rw [hU] at hTU hU60
  simp only [hT]
  have HUe := Lib.hid hU
  have hU20 : U.size ≤ 20000 := by omega
  obtain ⟨N1, hN1⟩ : ∃ N1, numV (sub p 60 4) = N1 := ⟨_, rfl⟩
  obtain ⟨N2, hN2⟩ : ∃ N2, sum U = N2 := ⟨_, rfl⟩
  have HN1 := Lib.hid hN1
  have HN2 := Lib.hid hN2
  obtain ⟨bq, hbq⟩ : ∃ bq, (N1 != N2) = bq := ⟨_, rfl⟩
  have HBq := Lib.hid hbq
  clear hN1 hN2 hT hU HU
  have hT60 : (60 : Int) ≤ (T.size : Int) := by omega
  refine start_ (n := 6) (S := fun w' => w'.heap[B]? = some (Obj.cells (pa p) 26 (0, 0))) (ds := []) #[false, false, false, false, false, false] (by kernel_rfl) rfl rfl (HPd.out) (fun hHeld => ?_)
  refine pure_ (i := 2) (N := some 19) (v := ?_) (a' := ?_) #[false, false, true, false, false, false] rfl rfl (by kernel_rfl) (fun _ _ _ h => h) (Or.inl ⟨by rfl, ?_⟩) ?_ ?_
  rotate_left
  · intro w'
    go_simp
    with_reducible rfl
  rotate_left
  · simp only [Act.put, List.setIfInBounds_toArray, List.set_cons_zero, List.set_cons_succ, i64_w, i32_w]
    rfl
  refine pure_ (i := 3) (N := some 20) (v := ?_) (a' := ?_) #[false, false, true, true, false, false] rfl rfl (by kernel_rfl) (fun _ _ _ h => h) (Or.inl ⟨by rfl, ?_⟩) ?_ ?_
  rotate_left
  · intro w'
    go_simp
    with_reducible rfl
  rotate_left
  · simp only [Act.put, List.setIfInBounds_toArray, List.set_cons_zero, List.set_cons_succ, i64_w, i32_w]
    rfl
  refine take_ (i := 0) (N := some 17) (v := ?_) (a' := ?_) #[true, false, true, true, false, false] rfl rfl (by kernel_rfl) (fun _ _ _ h => h) (Or.inl ⟨by rfl, ?_⟩) hHeld ?_ ?_
  rotate_left
  · intro w' s0
    refine exec_loadB (x := .tmp 1) ?_ ?_  s0
    · rfl
    · rfl
  rotate_left
  · simp only [Act.put, List.setIfInBounds_toArray, List.set_cons_zero, List.set_cons_succ, i64_w, i32_w]
    rfl
  refine one_ (i := 1) (N := some 18) #[true, true, true, true, false, false] rfl rfl (by kernel_rfl) (by decide) (fun K hK => ?_)
  refine goes_ Tryd.func37 (by kernel_rfl) rfl #[pv p, .int .i64 ((60 : Nat) : Int)] (by rfl) rfl rfl (by simp only [List.map_toArray, List.map_cons, List.map_nil]; rfl) ?_
  with_reducible refine (rfour2_c p 60 (by decide) _).mono ?_
  rintro e w5 ⟨rfl, hd5⟩
  refine ⟨_, rfl, ?_⟩
  rw [HN1.out]
  have HB5 := Lib.hid (HBd.out.trans (hd5.mono HBd.out.size))
  have HP5 := blk_to HPg HB5.out
  clear hd5
  refine hK.out _ _ (HP5.out) (fun hHeld => ?_)
  clear hK K
  refine norm_ (a' := ?_) ?_ ?_
  rotate_left
  · show Act.put _ (some 18) _ = _
    simp only [Act.put, List.setIfInBounds_toArray, List.set_cons_zero, List.set_cons_succ, i64_w, i32_w]
    rfl
  refine one_ (i := 4) (N := some 21) #[true, true, true, true, true, false] rfl rfl (by kernel_rfl) (by decide) (fun K hK => ?_)
  refine goes_ Tryd.func18 (by kernel_rfl) rfl #[.string U] (by rfl) rfl rfl (by simp only [List.map_toArray, List.map_cons, List.map_nil]; rfl) ?_
  with_reducible refine (RSm.refsum_c U hU20 _).mono ?_
  rintro e w6 ⟨rfl, hd6⟩
  refine ⟨_, rfl, ?_⟩
  rw [HN2.out]
  have HB6 := Lib.hid (HB5.out.trans (hd6.mono HB5.out.size))
  have HP6 := blk_to HPg HB6.out
  clear hd6
  refine hK.out _ _ (HP6.out) (fun hHeld => ?_)
  clear hK K
  refine norm_ (a' := ?_) ?_ ?_
  rotate_left
  · show Act.put _ (some 21) _ = _
    simp only [Act.put, List.setIfInBounds_toArray, List.set_cons_zero, List.set_cons_succ, i64_w, i32_w]
    rfl
  refine pure_ (i := 5) (N := some 22) (v := ?_) (a' := ?_) #[true, true, true, true, true, true] rfl rfl (by kernel_rfl) (fun _ _ _ h => h) (Or.inl ⟨by rfl, ?_⟩) ?_ ?_
  rotate_left
  · intro w'
    go_simp
    with_reducible rfl
  rotate_left
  · simp only [Act.put, List.setIfInBounds_toArray, List.set_cons_zero, List.set_cons_succ, i64_w, i32_w]
    rfl
  refine done_ (by kernel_rfl) ?_

  have HX6 := Lib.hid (HB1.out.trans (HB6.out.mono (by have := HB1.out.size; omega)))
  have HR6 := blk_to HRs HB6.out
  have HBw := Lib.hid hB
  clear HB5 HB6 HP5 HBd HPd hHeld hbq hU20 HRs HB1 hpv
  cases bq with
  | true =>
    have HBad := Lib.hid (rbad12 (p := p) (fun e => by
      have := HBq.out
      rw [← HN1.out, ← HN2.out, ← HUe.out, e] at this
      simp at this))
    go_wp2_with (first | (refine wl_storeQ (B + 1) 0 0 0 0 0 0 0 0 HR6.out rfl _ _ rfl rfl rfl ?_))
    (try simp only [Exit.inBlock, Exit.then])
    refine bodyPost_ret (v := .tuple #[.agg (slA 0 0 0 0), .int .i64 12]) ?_ rfl ?_
    · exact rread_results _ _ (B + 1) 0 0 0 0 (.int .i64 12) rfl rfl (qrow_at _ _ 0 0 0 0 _ _ _ _ HR6.out)
    exact rread_end HBw.out HR6.out HX6.out HBad.out
  | false =>
    have HEq := Lib.hid (show numV (sub p 60 4) = sum (sub p 0 60) from by
      have := HBq.out
      rw [bne, Bool.not_eq_false', beq_iff_eq] at this
      rw [HUe.out, HN1.out, HN2.out, this])
    clear HBq HN1 HN2
    go_wp2_with fail
    refine (rget_c U 4 (by omega) (by omega) _).mono ?_
    rintro e w7 ⟨n1, q1, b1, rfl, hg1, hd⟩
    have hq1 := hg1.le
    have HG1 := Lib.hid hg1
    have HP7 := blk_to HP6 hd
    have HR7 := blk_to HR6 hd
    have HX7 := Dk.below_to HX6 (by have := HX6.out.size; omega) hd
    clear hg1 hd HP6 HR6 HX6
    go_wp2_with fail
    refine (rget_c U q1 (by omega) hq1 _).mono ?_
    rintro e w8 ⟨n2, q2, b2, rfl, hg2, hd⟩
    have hq2 := hg2.le
    have HG2 := Lib.hid hg2
    have HP8 := blk_to HP7 hd
    have HR8 := blk_to HR7 hd
    have HX8 := Dk.below_to HX7 (by have := HX7.out.size; omega) hd
    clear hg2 hd HP7 HR7 HX7
    go_wp2_with fail
    refine (rget_c U q2 (by omega) hq2 _).mono ?_
    rintro e w9 ⟨n3, q3, b3, rfl, hg3, hd⟩
    have HG3 := Lib.hid hg3
    have HP9 := blk_to HP8 hd
    have HR9 := blk_to HR8 hd
    have HX9 := Dk.below_to HX8 (by have := HX8.out.size; omega) hd
    clear hg3 hd HP8 HR8 HX8 hq1 hq2
    rw [← HUe.out] at HG1 HG2 HG3
    clear hT60 hT64 hU60
    by_cases hall : b1 = true ∧ b2 = true ∧ b3 = true ∧ (n3 : Int) ≤ 4294967295
    · obtain ⟨rfl, rfl, rfl, h3⟩ := hall
      have c1 : decide (4294967295 < (n3 : Int)) = false := decide_eq_false (by omega)
      have c1' : decide (4294967295 < n3) = false := decide_eq_false (by omega)
      have hu3 : IntKind.u32.wrap (n3 : Int) = (n3 : Int) := IntWalk.u32_in _ (by omega)
      go_wp2_with (first | (refine wl_loadB B p HP9.out rfl _ rfl rfl ?_))
      refine (rfour2_c p 0 (by decide) _).mono ?_
      rintro e w10 ⟨rfl, hd⟩
      have HP10 := blk_to HP9 hd
      have HR10 := blk_to HR9 hd
      have HX10 := Dk.below_to HX9 (by have := HX9.out.size; have := HBw.out; omega) hd
      clear hd HP9 HR9 HX9
      obtain ⟨g, hg⟩ : ∃ g, numV (sub p 0 4) = g := ⟨_, rfl⟩
      rw [hg]
      have HG := Lib.hid hg
      have hg0 := (numV_lt (sub p 0 4))
      rw [hg] at hg0
      clear hg
      go_wp2_with (first | (refine wl_allocQ rfl rfl ?_) | (refine wl_storeQn 0 0 0 0 g n1 n2 n3 rfl _ _ rfl rfl rfl ?_))
      have HZ := Lib.hid (heap_alloc_last w10 (Obj.cells (slA g (n1 : Int) (n2 : Int) (n3 : Int)) 24 (0, 0)))
      have hb11 : Below w10.heap.size w10 (w10.alloc (Obj.cells (slA g (n1 : Int) (n2 : Int) (n3 : Int)) 24 (0, 0))) := (Below.refl _ _).alloc (Nat.le_refl _) _
      have HPW := blk_to HP10 hb11
      have HRW := blk_to HR10 hb11
      have HXW := Dk.below_to HX10 (by have := HX10.out.size; have := HBw.out; omega) hb11
      obtain ⟨Z, hZ⟩ : ∃ Z, w10.heap.size = Z := ⟨_, rfl⟩
      rw [hZ] at HZ
      simp only [hZ]
      generalize (w10.alloc (Obj.cells (slA g (n1 : Int) (n2 : Int) (n3 : Int)) 24 (0, 0))) = w11 at *
      simp only [Act.put, List.setIfInBounds_toArray, List.set_cons_zero, List.set_cons_succ]
      have HWd := Lib.hid (show Below w11.heap.size w11 w11.drew from (Below.refl _ _).drew)
      have HZd := blk_to HZ HWd.out
      have HPd2 := blk_to HPW HWd.out
      clear hb11 hZ hu3 HP10 HR10 HX10 c1 c1'
      obtain ⟨rb, hrb⟩ : ∃ rb, rightB g (n1 : Int) (n2 : Int) (n3 : Int) = rb := ⟨_, rfl⟩
      have hrt := Lib.hid hrb
      clear hrb
      cases rb with
      | false =>
        refine start_ (n := 9) (S := fun w' => w'.heap[Z]? = some (Obj.cells (slA g (n1 : Int) (n2 : Int) (n3 : Int)) 24 (0, 0)) ∧ w'.heap[B]? = some (Obj.cells (pa p) 26 (0, 0))) (ds := []) #[false, false, false, false, false, false, false, false, false] (by kernel_rfl) rfl rfl ⟨HZd.out, HPd2.out⟩ (fun hHeld => ?_)
        refine take_ (i := 0) (N := some 69) (v := ?_) (a' := ?_) #[true, false, false, false, false, false, false, false, false] rfl rfl (by kernel_rfl) (fun _ _ _ h => h) (Or.inl ⟨by rfl, ?_⟩) hHeld ?_ ?_
        rotate_left
        · rintro w' ⟨s0, s1⟩
          refine exec_loadQ (x := .tmp 14) ?_ ?_  s0
          · rfl
          · rfl
        rotate_left
        · simp only [Act.put, List.setIfInBounds_toArray, List.set_cons_zero, List.set_cons_succ, i64_w, i32_w]
          rfl
        refine one_ (i := 1) (N := some 70) #[true, true, false, false, false, false, false, false, false] rfl rfl (by kernel_rfl) (by decide) (fun K hK => ?_)
        refine goes_ Tryd.func15 (by kernel_rfl) rfl #[.agg (slA g (n1 : Int) (n2 : Int) (n3 : Int))] (by rfl) rfl rfl (by simp only [List.map_toArray, List.map_cons, List.map_nil]; rfl) ?_
        with_reducible refine (rright_c g (n1 : Int) (n2 : Int) (n3 : Int) false _ hrt).mono ?_
        rintro e w20 ⟨rfl, hd20⟩
        refine ⟨_, rfl, ?_⟩
        have HW20 := Lib.hid (HWd.out.trans (hd20.mono HWd.out.size))
        have HZ20 := blk_to HZ HW20.out
        have HP20 := blk_to HPW HW20.out
        clear hd20
        refine hK.out _ _ ⟨HZ20.out, HP20.out⟩ (fun hHeld => ?_)
        clear hK K
        refine norm_ (a' := ?_) ?_ ?_
        rotate_left
        · show Act.put _ (some 70) _ = _
          simp only [Act.put, List.setIfInBounds_toArray, List.set_cons_zero, List.set_cons_succ, i64_w, i32_w]
          rfl
        refine pure_ (i := 2) (N := some 71) (v := ?_) (a' := ?_) #[true, true, true, false, false, false, false, false, false] rfl rfl (by kernel_rfl) (fun _ _ _ h => h) (Or.inl ⟨by rfl, ?_⟩) ?_ ?_
        rotate_left
        · intro w'
          go_simp
          with_reducible rfl
        rotate_left
        · simp only [Act.put, List.setIfInBounds_toArray, List.set_cons_zero, List.set_cons_succ, i64_w, i32_w]
          rfl
        refine pure_ (i := 3) (N := some 72) (v := ?_) (a' := ?_) #[true, true, true, true, false, false, false, false, false] rfl rfl (by kernel_rfl) (fun _ _ _ h => h) (Or.inl ⟨by rfl, ?_⟩) ?_ ?_
        rotate_left
        · intro w'
          go_simp
          with_reducible rfl
        rotate_left
        · simp only [Act.put, List.setIfInBounds_toArray, List.set_cons_zero, List.set_cons_succ, i64_w, i32_w]
          rfl
        refine pure_ (i := 4) (N := some 73) (v := undef) (a' := ?_) #[true, true, true, true, true, false, false, false, false] rfl rfl (by kernel_rfl) (fun _ _ _ h => h) (Or.inr ⟨by rfl, rfl⟩) ?_ ?_
        rotate_left
        · simp only [Act.put, List.setIfInBounds_toArray, List.set_cons_zero, List.set_cons_succ, i64_w, i32_w]
          rfl
        refine pure_ (i := 5) (N := some 74) (v := undef) (a' := ?_) #[true, true, true, true, true, true, false, false, false] rfl rfl (by kernel_rfl) (fun _ _ _ h => h) (Or.inr ⟨by rfl, rfl⟩) ?_ ?_
        rotate_left
        · simp only [Act.put, List.setIfInBounds_toArray, List.set_cons_zero, List.set_cons_succ, i64_w, i32_w]
          rfl
        refine pure_ (i := 6) (N := some 75) (v := undef) (a' := ?_) #[true, true, true, true, true, true, true, false, false] rfl rfl (by kernel_rfl) (fun _ _ _ h => h) (Or.inr ⟨by rfl, rfl⟩) ?_ ?_
        rotate_left
        · simp only [Act.put, List.setIfInBounds_toArray, List.set_cons_zero, List.set_cons_succ, i64_w, i32_w]
          rfl
        refine pure_ (i := 7) (N := some 76) (v := undef) (a' := ?_) #[true, true, true, true, true, true, true, true, false] rfl rfl (by kernel_rfl) (fun _ _ _ h => h) (Or.inr ⟨by rfl, rfl⟩) ?_ ?_
        rotate_left
        · simp only [Act.put, List.setIfInBounds_toArray, List.set_cons_zero, List.set_cons_succ, i64_w, i32_w]
          rfl
        refine pure_ (i := 8) (N := some 77) (v := ?_) (a' := ?_) #[true, true, true, true, true, true, true, true, true] rfl rfl (by kernel_rfl) (fun _ _ _ h => h) (Or.inl ⟨by rfl, ?_⟩) ?_ ?_
        rotate_left
        · intro w'
          go_simp
          with_reducible rfl
        rotate_left
        · simp only [Act.put, List.setIfInBounds_toArray, List.set_cons_zero, List.set_cons_succ, i64_w, i32_w]
          rfl
        refine done_ (by kernel_rfl) ?_

        have HBad := Lib.hid (show slotOf p = ⟨0, 0, 0, 0⟩ ∧ slotBad p = 13 from by
          have e0 := got_other HG1.out HG2.out HG3.out (fun h => absurd (rightB_true h) (by rw [HG.out, hrt.out]; decide))
          exact ⟨e0, rbad13 HEq.out e0⟩)
        have HR20 := blk_to HRW HW20.out
        have HX20 := Dk.below_to HXW (by have := HXW.out.size; have := HBw.out; omega) HW20.out
        go_wp2_with (first | (refine wl_storeQ (B + 1) 0 0 0 0 0 0 0 0 HR20.out rfl _ _ rfl rfl rfl ?_))
        (try simp only [Exit.inBlock, Exit.then])
        refine bodyPost_ret (v := .tuple #[.agg (slA 0 0 0 0), .int .i64 13]) ?_ rfl ?_
        · exact rread_results _ _ (B + 1) 0 0 0 0 (.int .i64 13) rfl rfl (qrow_at _ _ 0 0 0 0 _ _ _ _ HR20.out)
        exact rread_end HBw.out HR20.out HX20.out HBad.out
      | true =>
        have HRT := Lib.hid (rightB_rt hrt.out hg0.2 (Int.natCast_nonneg n3) (by omega))
        obtain ⟨bl, hb⟩ : ∃ bl, ((layP g (n1 : Int) (n2 : Int) (n3 : Int)).1 != p.1) = bl := ⟨_, rfl⟩
        have HBl := Lib.hid hb
        refine start_ (n := 9) (S := fun w' => w'.heap[Z]? = some (Obj.cells (slA g (n1 : Int) (n2 : Int) (n3 : Int)) 24 (0, 0)) ∧ w'.heap[B]? = some (Obj.cells (pa p) 26 (0, 0))) (ds := []) #[false, false, false, false, false, false, false, false, false] (by kernel_rfl) rfl rfl ⟨HZd.out, HPd2.out⟩ (fun hHeld => ?_)
        refine take_ (i := 0) (N := some 69) (v := ?_) (a' := ?_) #[true, false, false, false, false, false, false, false, false] rfl rfl (by kernel_rfl) (fun _ _ _ h => h) (Or.inl ⟨by rfl, ?_⟩) hHeld ?_ ?_
        rotate_left
        · rintro w' ⟨s0, s1⟩
          refine exec_loadQ (x := .tmp 14) ?_ ?_  s0
          · rfl
          · rfl
        rotate_left
        · simp only [Act.put, List.setIfInBounds_toArray, List.set_cons_zero, List.set_cons_succ, i64_w, i32_w]
          rfl
        refine one_ (i := 1) (N := some 70) #[true, true, false, false, false, false, false, false, false] rfl rfl (by kernel_rfl) (by decide) (fun K hK => ?_)
        refine goes_ Tryd.func15 (by kernel_rfl) rfl #[.agg (slA g (n1 : Int) (n2 : Int) (n3 : Int))] (by rfl) rfl rfl (by simp only [List.map_toArray, List.map_cons, List.map_nil]; rfl) ?_
        with_reducible refine (rright_c g (n1 : Int) (n2 : Int) (n3 : Int) true _ hrt).mono ?_
        rintro e w20 ⟨rfl, hd20⟩
        refine ⟨_, rfl, ?_⟩
        have HW20 := Lib.hid (HWd.out.trans (hd20.mono HWd.out.size))
        have HZ20 := blk_to HZ HW20.out
        have HP20 := blk_to HPW HW20.out
        clear hd20
        refine hK.out _ _ ⟨HZ20.out, HP20.out⟩ (fun hHeld => ?_)
        clear hK K
        refine norm_ (a' := ?_) ?_ ?_
        rotate_left
        · show Act.put _ (some 70) _ = _
          simp only [Act.put, List.setIfInBounds_toArray, List.set_cons_zero, List.set_cons_succ, i64_w, i32_w]
          rfl
        refine pure_ (i := 2) (N := some 71) (v := ?_) (a' := ?_) #[true, true, true, false, false, false, false, false, false] rfl rfl (by kernel_rfl) (fun _ _ _ h => h) (Or.inl ⟨by rfl, ?_⟩) ?_ ?_
        rotate_left
        · intro w'
          go_simp
          with_reducible rfl
        rotate_left
        · simp only [Act.put, List.setIfInBounds_toArray, List.set_cons_zero, List.set_cons_succ, i64_w, i32_w]
          rfl
        refine pure_ (i := 3) (N := some 72) (v := ?_) (a' := ?_) #[true, true, true, true, false, false, false, false, false] rfl rfl (by kernel_rfl) (fun _ _ _ h => h) (Or.inl ⟨by rfl, ?_⟩) ?_ ?_
        rotate_left
        · intro w'
          go_simp
          with_reducible rfl
        rotate_left
        · simp only [Act.put, List.setIfInBounds_toArray, List.set_cons_zero, List.set_cons_succ, i64_w, i32_w]
          rfl
        refine take_ (i := 4) (N := some 73) (v := ?_) (a' := ?_) #[true, true, true, true, true, false, false, false, false] rfl rfl (by kernel_rfl) (fun _ _ _ h => h) (Or.inl ⟨by rfl, ?_⟩) hHeld ?_ ?_
        rotate_left
        · rintro w' ⟨s0, s1⟩
          refine exec_loadQ (x := .tmp 14) ?_ ?_  s0
          · rfl
          · rfl
        rotate_left
        · simp only [Act.put, List.setIfInBounds_toArray, List.set_cons_zero, List.set_cons_succ, i64_w, i32_w]
          rfl
        refine take_ (i := 6) (N := some 75) (v := ?_) (a' := ?_) #[true, true, true, true, true, false, true, false, false] rfl rfl (by kernel_rfl) (fun _ _ _ h => h) (Or.inl ⟨by rfl, ?_⟩) hHeld ?_ ?_
        rotate_left
        · rintro w' ⟨s0, s1⟩
          refine exec_loadB (x := .tmp 1) ?_ ?_  s1
          · rfl
          · rfl
        rotate_left
        · simp only [Act.put, List.setIfInBounds_toArray, List.set_cons_zero, List.set_cons_succ, i64_w, i32_w]
          rfl
        refine one_ (i := 5) (N := some 74) #[true, true, true, true, true, true, true, false, false] rfl rfl (by kernel_rfl) (by decide) (fun K hK => ?_)
        refine goes_ Tryd.func16 (by kernel_rfl) rfl #[.agg (slA g (n1 : Int) (n2 : Int) (n3 : Int))] (by rfl) rfl rfl (by simp only [List.map_toArray, List.map_cons, List.map_nil]; rfl) ?_
        with_reducible refine (rlay_c g (n1 : Int) (n2 : Int) (n3 : Int) _ HRT.out).mono ?_
        rintro e w21 ⟨rfl, hd21⟩
        refine ⟨_, rfl, ?_⟩
        have HW21 := Lib.hid (HW20.out.trans (hd21.mono HW20.out.size))
        have HZ21 := blk_to HZ HW21.out
        have HP21 := blk_to HPW HW21.out
        clear hd21
        refine hK.out _ _ ⟨HZ21.out, HP21.out⟩ (fun hHeld => ?_)
        clear hK K
        refine norm_ (a' := ?_) ?_ ?_
        rotate_left
        · show Act.put _ (some 74) _ = _
          simp only [Act.put, List.setIfInBounds_toArray, List.set_cons_zero, List.set_cons_succ, i64_w, i32_w]
          rfl
        refine pure_ (i := 7) (N := some 76) (v := ?_) (a' := ?_) #[true, true, true, true, true, true, true, true, false] rfl rfl (by kernel_rfl) (fun _ _ _ h => h) (Or.inl ⟨by rfl, ?_⟩) ?_ ?_
        rotate_left
        · intro w'
          refine exec_neqB (x := .tmp 74) (y := .tmp 75) ?_ ?_ ?_  hb
          · rfl
          · rfl
          · rfl
        rotate_left
        · simp only [Act.put, List.setIfInBounds_toArray, List.set_cons_zero, List.set_cons_succ, i64_w, i32_w]
          rfl
        refine pure_ (i := 8) (N := some 77) (v := ?_) (a' := ?_) #[true, true, true, true, true, true, true, true, true] rfl rfl (by kernel_rfl) (fun _ _ _ h => h) (Or.inl ⟨by rfl, ?_⟩) ?_ ?_
        rotate_left
        · intro w'
          go_simp
          with_reducible rfl
        rotate_left
        · simp only [Act.put, List.setIfInBounds_toArray, List.set_cons_zero, List.set_cons_succ, i64_w, i32_w]
          rfl
        refine done_ (by kernel_rfl) ?_

        have HR20 := blk_to HRW HW21.out
        have HX20 := Dk.below_to HXW (by have := HXW.out.size; have := HBw.out; omega) HW21.out
        clear hb
        cases bl with
        | true =>
          have HBad := Lib.hid (show slotOf p = ⟨0, 0, 0, 0⟩ ∧ slotBad p = 13 from by
            have e0 := got_other HG1.out HG2.out HG3.out (fun h e => by
              have := HBl.out
              rw [HG.out] at e
              rw [e] at this
              simp at this)
            exact ⟨e0, rbad13 HEq.out e0⟩)
          go_wp2_with (first | (refine wl_storeQ (B + 1) 0 0 0 0 0 0 0 0 HR20.out rfl _ _ rfl rfl rfl ?_))
          (try simp only [Exit.inBlock, Exit.then])
          refine bodyPost_ret (v := .tuple #[.agg (slA 0 0 0 0), .int .i64 13]) ?_ rfl ?_
          · exact rread_results _ _ (B + 1) 0 0 0 0 (.int .i64 13) rfl rfl (qrow_at _ _ 0 0 0 0 _ _ _ _ HR20.out)
          exact rread_end HBw.out HR20.out HX20.out HBad.out
        | false =>
          have hlay : layP g (n1 : Int) (n2 : Int) (n3 : Int) = p := by
            have := HBl.out
            rw [bne, Bool.not_eq_false', beq_iff_eq] at this
            exact Subtype.ext this
          have HBad := Lib.hid (rbad0 HRT.out hlay)
          have HZ21' := Lib.hid HZ21.out
          clear hlay
          go_wp2_with (first
            | (refine wl_loadQ Z g (n1 : Int) (n2 : Int) (n3 : Int) HZ21.out rfl _ rfl rfl ?_)
            | (refine wl_storeQ (B + 1) 0 0 0 0 g (n1 : Int) (n2 : Int) (n3 : Int) HR20.out rfl _ _ rfl rfl rfl ?_))
          (try simp only [Exit.inBlock, Exit.then])
          refine bodyPost_ret (v := .tuple #[.agg (slA g (n1 : Int) (n2 : Int) (n3 : Int)), .int .i64 0]) ?_ rfl ?_
          · exact rread_results _ _ (B + 1) g (n1 : Int) (n2 : Int) (n3 : Int) (.int .i64 0) rfl rfl (qrow_at _ _ 0 0 0 0 _ _ _ _ HR20.out)
          exact rread_end HBw.out HR20.out HX20.out HBad.out
    · have HBad := Lib.hid (show slotOf p = ⟨0, 0, 0, 0⟩ ∧ slotBad p = 13 from by
        have e0 := got_bad HG1.out HG2.out HG3.out hall
        exact ⟨e0, rbad13 HEq.out e0⟩)
      by_cases h3 : (n3 : Int) ≤ 4294967295
      · have c1 : decide (4294967295 < (n3 : Int)) = false := decide_eq_false (by omega)
        have c1' : decide (4294967295 < n3) = false := decide_eq_false (by omega)
        cases b1 <;> cases b2 <;> cases b3 <;> first
          | exact absurd ⟨rfl, rfl, rfl, h3⟩ hall
          | (clear hall h3
             go_wp2_with (first | (refine wl_storeQ (B + 1) 0 0 0 0 0 0 0 0 HR9.out rfl _ _ rfl rfl rfl ?_))
             (try simp only [Exit.inBlock, Exit.then])
             refine bodyPost_ret (v := .tuple #[.agg (slA 0 0 0 0), .int .i64 13]) ?_ rfl ?_
             · exact rread_results _ _ (B + 1) 0 0 0 0 (.int .i64 13) rfl rfl (qrow_at _ _ 0 0 0 0 _ _ _ _ HR9.out)
             exact rread_end HBw.out HR9.out HX9.out HBad.out)
      · have c1 : decide (4294967295 < (n3 : Int)) = true := decide_eq_true (by omega)
        have c1' : decide (4294967295 < n3) = true := decide_eq_true (by omega)
        clear hall h3
        cases b1 <;> cases b2 <;> cases b3 <;>
          (go_wp2_with (first | (refine wl_storeQ (B + 1) 0 0 0 0 0 0 0 0 HR9.out rfl _ _ rfl rfl rfl ?_))
           (try simp only [Exit.inBlock, Exit.then])
           refine bodyPost_ret (v := .tuple #[.agg (slA 0 0 0 0), .int .i64 13]) ?_ rfl ?_
           · exact rread_results _ _ (B + 1) 0 0 0 0 (.int .i64 13) rfl rfl (qrow_at _ _ 0 0 0 0 _ _ _ _ HR9.out)
           exact rread_end HBw.out HR9.out HX9.out HBad.out)
end Go.Proofs.YtkgiifcbimpcoaaDoor.Rf
