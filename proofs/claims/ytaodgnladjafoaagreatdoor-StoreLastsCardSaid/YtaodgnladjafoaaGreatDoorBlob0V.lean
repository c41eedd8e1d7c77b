/- Words that the proof uses. -/
import Derived.Test.YtaodgnladjafoaaGreatDoorQStoreLastsV
import Derived.Test.YtaodgnladjafoaaGreatDoorWordsV
import Derived.Test.YtaodgnladjafoaaGreatDoorWholeV
import Derived.Lib.Hide
import Derived.Deep.RegionHeld3
set_option linter.unusedVariables false
set_option linter.unusedSimpArgs false
namespace Go.Proofs.YtaodgnladjafoaaGreatDoor.Blb
open Go.RowKit Go.Proofs.YtaodgnladjafoaaGreatDoor.QStoreLasts Go.Proofs.YtaodgnladjafoaaGreatDoorW.PrintWords Go.Proofs.YtaodgnladjafoaaGreatDoorW.PrintLast Go.Proofs.YtaodgnladjafoaaGreatDoorW.PrintMore Go.Proofs.YtaodgnladjafoaaGreatDoor.CdM Go.Proofs.YtaodgnladjafoaaGreatDoor.AdM
theorem bnd {α β : Type} {x : Option α} {f : α → Option β} {v : α} {r : Option β} (hx : x = some v) (h : f v = r) : x.bind f = r := by rw [hx]; exact h
theorem itp {α : Type} {c : Prop} {_ : Decidable c} {A B r : Option α} (hc : c) (h : A = r) : (if c then A else B) = r := by rw [if_pos hc]; exact h
theorem itn {α : Type} {c : Prop} {_ : Decidable c} {A B r : Option α} (hc : ¬ c) (h : B = r) : (if c then A else B) = r := by rw [if_neg hc]; exact h
theorem num_l : ∀ (n : Nat) (k : Nat) (acc : List Int), (num n).length ≤ k → acc.length + (num n).length ≤ 1000 → code_Num.l0 k (n : Int) acc = some (strOfNums (acc ++ digs n)) := by
  intro n
  induction n using Nat.strongRecOn with
  | _ n ih =>
    intro k acc hk hl
    have hp := num_pos n
    obtain ⟨k, rfl⟩ : ∃ m, k = m + 1 := ⟨k - 1, by omega⟩
    have c2 : acc.length < 140737488355328 := by omega
    by_cases h : n < 128
    · have c1 : ¬ (n : Int) ≥ 128 := by omega
      have e : (n : Int) % 256 = n := by omega
      have e2 : digs n = [(n : Int)] := by unfold digs; rw [num_small h]; rfl
      simp only [code_Num.l0]
      refine itn c1 (itp c2 ?_)
      rw [e, e2]
    · have c1 : (n : Int) ≥ 128 := by omega
      have hb := num_big h
      have hlen : (num n).length = (num (n / 128)).length + 1 := by rw [hb]; simp
      have e2 : digs n = ((n : Int) % 128 + 128) :: digs (n / 128) := by unfold digs; rw [hb]; simp
      have e3 : (n : Int) / 128 = ((n / 128 : Nat) : Int) := by omega
      simp only [code_Num.l0]
      refine itp c1 (itp c2 ?_)
      rw [digit_more, e3, ih (n / 128) (by omega) k _ (by omega) (by simp; omega), e2]
      simp
theorem num_at (n : Nat) (hn : n ≤ 4611686018427387904) (k : Nat) (hk : 11 ≤ k) : code_Num.f k (n : Int) = some (numS n) := by
  have h9 := numS_nine hn
  rw [numS_size] at h9
  obtain ⟨k, rfl⟩ : ∃ m, k = m + 1 := ⟨k - 1, by omega⟩
  have c1 : ¬ (n : Int) < 0 := by omega
  have c2 : ¬ (n : Int) > 4611686018427387904 := by omega
  have hd : decide ((n : Int) > 4611686018427387904) = false := decide_eq_false c2
  have c3 : ¬ (false = true) := by decide
  have hl := num_l n k [] (by omega) (by simp; omega)
  unfold code_Num.f
  refine itn c1 ?_
  rw [hd]
  simp only [code_Num.j0]
  exact itn c3 hl
theorem num_v (x : Int) (h0 : 0 ≤ x) (h1 : x ≤ 4611686018427387904) (w : World) : Calls Tryz.prog 87 #[.int .i64 x] w fun e w' => e = .returned (.string (numS x.toNat)) ∧ Below w.heap.size w w' := by
  have h := code_Num.calls 11 _ _ w (num_at x.toNat (by omega) 11 (by omega))
  rw [show ((x.toNat : Nat) : Int) = x by omega] at h
  exact h
def Held3 (w : World) (B : Nat) (x y z : Value) (w' : World) : Prop := (w'.cell? ⟨B, 0, none⟩ = some x ∧ w'.cell? ⟨B, 1, none⟩ = some y ∧ w'.cell? ⟨B, 2, none⟩ = some z) ∧ B < w'.heap.size ∧ Below w.heap.size w w'
theorem Held3.on {w : World} {B : Nat} {x y z : Value} {w1 w2 : World} (h : Held3 w B x y z w1) (k : Below w1.heap.size w1 w2) : Held3 w B x y z w2 :=
  ⟨⟨(k.cell (p := ⟨B, 0, none⟩) h.2.1).trans h.1.1, (k.cell (p := ⟨B, 1, none⟩) h.2.1).trans h.1.2.1, (k.cell (p := ⟨B, 2, none⟩) h.2.1).trans h.1.2.2⟩, Nat.lt_of_lt_of_le h.2.1 k.size, h.2.2.trans (k.mono h.2.2.size)⟩
theorem Held3.new (w : World) (x y z : Value) (t : TypeId) : Held3 w w.heap.size x y z (w.alloc (.cells #[x, y, z] t)).drew :=
  ⟨⟨by simp, by simp, by simp⟩, by simp, ((Below.refl _ _).alloc (Nat.le_refl _) _).drew⟩
set_option maxHeartbeats 2000000 in
set_option maxRecDepth 100000 in
theorem lay_a (x y z : Int) (w : World) (hx0 : 0 ≤ x) (hx1 : x ≤ 4611686018427387904) (hy0 : 0 ≤ y) (hy1 : y ≤ 4611686018427387904) (hz0 : 0 ≤ z) (hz1 : z ≤ 4294967295) :
    Calls Tryz.prog 64 #[.agg #[.int .i64 x, .int .i64 y, .int .u32 z]] w fun e w' => e = .returned (.string (numS x.toNat ++ numS y.toNat ++ numS z.toNat)) ∧ Below w.heap.size w w' := by
  have l1 := numS_nine (n := x.toNat) (by omega)
  have l2 := numS_nine (n := y.toNat) (by omega)
  have l3 := numS_nine (n := z.toNat) (by omega)
  have hu29 := Tryz.underlying36
  have k1 : (9223372036854775807 < (numS x.toNat).size + (numS y.toNat).size) = False := eq_false (by omega)
  have k2 : (9223372036854775807 < (numS x.toNat).size + (numS y.toNat).size + (numS z.toNat).size) = False := eq_false (by omega)
  have k3 : IntKind.i64.wrap z = z := IntWalk.i64_in _ (by omega)
  have HN := Held3.new w (.int .i64 x) (.int .i64 y) (.int .u32 z) 36
  have HN' := Lib.hid HN
  clear HN
  go_enter Tryz.func64, Tryz.ntmps64
  go_wp2_with fail
  go_region_held3 (fun w' => (w'.cell? ⟨w.heap.size, 0, none⟩ = some (.int .i64 x) ∧ w'.cell? ⟨w.heap.size, 1, none⟩ = some (.int .i64 y) ∧ w'.cell? ⟨w.heap.size, 2, none⟩ = some (.int .u32 z)) ∧ w.heap.size < w'.heap.size ∧ Below w.heap.size w w')
    (first | exact HN'.out | assumption | exact Held3.on (by assumption) hb)
    (first | (go_at_call 87; refine (num_v _ (by omega) (by omega) _).mono ?_; rintro e w' ⟨rfl, hb⟩))
  rename_i hS
  have HS := Lib.hid hS
  clear hS
  go_wp2_with fail
  go_ret
  exact ⟨rfl, HS.out.2.2⟩
def pagesV (n : Int) : Int := if n < 1 then 0 else if n > 16384 then 0 else (n + 63) / 64
theorem pages_at (n : Int) : blob_Pages.f n = some (pagesV n) := by
  unfold blob_Pages.f pagesV
  by_cases h1 : n < 1
  · rw [if_pos h1, if_pos h1]
  · rw [if_neg h1, if_neg h1]
    by_cases h2 : n > 16384
    · rw [if_pos h2, if_pos h2]
    · rw [if_neg h2, if_neg h2]
      have e1 : wrap64 (n + 64) = n + 64 := by unfold wrap64; omega
      have e2 : wrap64 (n + 64 - 1) = n + 63 := by unfold wrap64; omega
      rw [e1, e2, Int.tdiv_eq_ediv_of_nonneg (by omega)]
      congr 1
      unfold wrap64
      omega
theorem pages_c (n v : Int) (h : Hid (pagesV n = v)) (w : World) : Calls Tryz.prog 35 #[.int .i64 n] w fun e w' => e = .returned (.int .i64 v) ∧ Drawn0 w w' :=
  blob_Pages.calls n v w (by rw [← h.out]; exact pages_at n)
theorem sum_l (s : ByteArray) (hs : s.size ≤ 4611686018427387904) : ∀ (d k i : Nat) (a b : Int), i + d = s.size → d < k → 0 ≤ a → a < 65521 → 0 ≤ b → b < 65521 →
    adler_Sum.l0 k s a b (s.size : Int) (i : Int) = some ((fold ((bl s).drop i) a b).2 * 65536 + (fold ((bl s).drop i) a b).1) := by
  intro d
  induction d with
  | zero =>
    intro k i a b hi hk h1 h2 h3 h4
    obtain ⟨k, rfl⟩ : ∃ m, k = m + 1 := ⟨k - 1, by omega⟩
    have e : (bl s).drop i = [] := List.drop_eq_nil_of_le (by rw [bl_length]; omega)
    simp only [adler_Sum.l0]
    rw [if_neg (by omega), e, or16 b a ⟨h3, h4⟩ ⟨h1, h2⟩]
    rfl
  | succ d ih =>
    intro k i a b hi hk h1 h2 h3 h4
    obtain ⟨k, rfl⟩ : ∃ m, k = m + 1 := ⟨k - 1, by omega⟩
    have c1 : (i : Int) < (s.size : Int) := by omega
    have c2 : (0 : Int) ≤ (i : Int) := Int.natCast_nonneg i
    have e4 : wrap64 ((i : Int) + 1) = ((i + 1 : Nat) : Int) := by unfold wrap64; omega
    have hr := bt_range s i
    generalize hb : bt s i = q at hr
    have e1 : q % 4294967296 = q := by omega
    have e2 : (a + q) % 4294967296 = a + q := by omega
    have e3 : (b + (a + q) % 65521) % 4294967296 = b + (a + q) % 65521 := by omega
    have hd := bl_drop s i (by omega)
    have g1 : 0 ≤ (a + q) % 65521 ∧ (a + q) % 65521 < 65521 := by omega
    have g2 : 0 ≤ (b + (a + q) % 65521) % 65521 ∧ (b + (a + q) % 65521) % 65521 < 65521 := by omega
    simp only [adler_Sum.l0]
    rw [if_pos c1, if_pos c2, if_pos c1, hb, e1, e2, e3, e4]
    rw [ih k (i + 1) _ _ (by omega) (by omega) g1.1 g1.2 g2.1 g2.2, hd, hb]
    rfl
theorem sum_at (s : ByteArray) (hs : s.size ≤ 4611686018427387904) (k : Nat) (hk : s.size < k) : adler_Sum.f k s = some (sum s) := by
  unfold adler_Sum.f
  have h := sum_l s hs s.size k 0 1 0 (by omega) hk (by omega) (by omega) (by omega) (by omega)
  rw [List.drop_zero, fold_AB] at h
  exact h
theorem sum_c (s : ByteArray) (w : World) (hs : s.size ≤ 4611686018427387904) : Calls Tryz.prog 61 #[.string s] w fun e w' => e = .returned (.int .u32 (sum s)) ∧ Below w.heap.size w w' :=
  (adler_Sum.calls (s.size + 1) s (sum s) w (sum_at s hs _ (by omega))).mono fun e w' h => ⟨h.1, h.2.below⟩
def rightV (x y size : Int) : Bool := decide (0 < pagesV y) && decide (0 ≤ x) && decide (x ≤ size - pagesV y)
theorem pagesV_le (y : Int) : 0 ≤ pagesV y ∧ pagesV y ≤ 256 := by
  unfold pagesV
  split
  · omega
  · split
    · omega
    · omega
theorem right_c (x y z size : Int) (w : World) (hs0 : 0 ≤ size) (hs : size ≤ 4611686018427387904) : Calls Tryz.prog 62 #[.agg #[.int .i64 x, .int .i64 y, .int .u32 z], .int .i64 size] w fun e w' => e = .returned (.bool (rightV x y size)) ∧ Below w.heap.size w w' := by
  refine blob_Right.calls x y z size _ w ?_
  unfold blob_Right.f rightV
  refine bnd (pages_at y) ?_
  have hp := pagesV_le y
  have e : wrap64 (size - pagesV y) = size - pagesV y := by unfold wrap64; omega
  by_cases h1 : pagesV y > 0
  · rw [if_pos h1, decide_eq_true (show 0 < pagesV y from h1)]
    by_cases h2 : x ≥ 0
    · rw [if_pos h2, decide_eq_true (show 0 ≤ x from h2), e]; rfl
    · rw [if_neg h2, decide_eq_false (show ¬ 0 ≤ x from h2)]; rfl
  · rw [if_neg h1, decide_eq_false (show ¬ 0 < pagesV y from h1)]; rfl
end Go.Proofs.YtaodgnladjafoaaGreatDoor.Blb
