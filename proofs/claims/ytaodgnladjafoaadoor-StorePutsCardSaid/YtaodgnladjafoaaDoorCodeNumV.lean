/- Plain facts on a number's digits to the base 128, the last below 128, the others with 128 on top; no program in sight. -/
import Derived.Test.YtaodgnladjafoaaDoorWordsV
import Derived.Lib.EndianBits
import Derived.Laws.Bits128
namespace Go.Proofs.YtaodgnladjafoaaDoor.CdM
open Go.Proofs.YtaodgnladjafoaaDoorW.PrintWords

/-- a number's digits, the lowest first; all but the last bear 128 -/
def num (n : Nat) : List Nat := if h : n < 128 then [n] else (n % 128 + 128) :: num (n / 128)
termination_by n
decreasing_by omega
theorem num_small {n : Nat} (h : n < 128) : num n = [n] := by rw [num]; simp [h]
theorem num_big {n : Nat} (h : ¬ n < 128) : num n = (n % 128 + 128) :: num (n / 128) := by rw [num]; simp [h]
theorem num_pos (n : Nat) : 1 ≤ (num n).length := by
  by_cases h : n < 128
  · rw [num_small h]; simp
  · rw [num_big h]; simp
theorem num_len (k : Nat) : ∀ n, n < 128 ^ (k + 1) → (num n).length ≤ k + 1 := by
  induction k with
  | zero => intro n h; rw [num_small (by simpa using h)]; simp
  | succ k ih =>
    intro n h
    by_cases hs : n < 128
    · rw [num_small hs]; simp
    · rw [num_big hs]
      have h1 : n / 128 < 128 ^ (k + 1) := by
        rw [Nat.pow_succ] at h
        exact Nat.div_lt_of_lt_mul (by omega)
      have := ih _ h1
      simp; omega
/-- none is the beginning of another one's -/
theorem num_prefix : ∀ (a b : Nat) (r : List Nat), num a ++ r = num b → a = b := by
  intro a
  induction a using Nat.strongRecOn with
  | _ a ih =>
    intro b r h
    by_cases ha : a < 128
    · rw [num_small ha] at h
      by_cases hb : b < 128
      · rw [num_small hb] at h; simp at h; exact h.1
      · rw [num_big hb] at h; simp at h; omega
    · rw [num_big ha] at h
      by_cases hb : b < 128
      · rw [num_small hb] at h; simp at h; omega
      · rw [num_big hb] at h
        simp at h
        have := ih (a / 128) (by omega) (b / 128) r h.2
        omega
theorem num_byte (n : Nat) : ∀ x ∈ num n, x < 256 := by
  induction n using Nat.strongRecOn with
  | _ n ih =>
    intro x hx
    by_cases h : n < 128
    · rw [num_small h] at hx; simp at hx; omega
    · rw [num_big h] at hx
      simp at hx
      rcases hx with rfl | hx
      · omega
      · exact ih _ (by omega) x hx

/-- the bytes of a number as a text -/
def digs (n : Nat) : List Int := (num n).map Int.ofNat
def numS (n : Nat) : ByteArray := strOfNums (digs n)
theorem strOfNums_size (l : List Int) : (strOfNums l).size = l.length := by simp [strOfNums, ByteArray.size]
theorem numS_size (n : Nat) : (numS n).size = (num n).length := by unfold numS; rw [strOfNums_size]; simp [digs]
theorem digs_u8 (n : Nat) : (numS n).data.toList = (num n).map UInt8.ofNat := by
  simp [numS, strOfNums, digs, List.map_map, Function.comp_def]
theorem u8_inj {a b : List Nat} (ha : ∀ x ∈ a, x < 256) (hb : ∀ x ∈ b, x < 256) (h : a.map UInt8.ofNat = b.map UInt8.ofNat) : a = b := by
  have h' := congrArg (List.map UInt8.toNat) h
  rw [List.map_map, List.map_map] at h'
  have e : ∀ l : List Nat, (∀ x ∈ l, x < 256) → l.map (UInt8.toNat ∘ UInt8.ofNat) = l := by
    intro l hl
    conv => rhs; rw [← List.map_id l]
    apply List.map_congr_left
    intro x hx
    have := hl x hx
    simp
    omega
  rw [e a ha, e b hb] at h'
  exact h'
/-- none is the beginning of another one's -/
theorem numS_begin {a b : Nat} (h : (numS b).extract 0 (numS a).size = numS a) : a = b := by
  have h' := congrArg (fun s : ByteArray => s.data.toList) h
  simp only [ByteArray.data_extract, Array.toList_extract, digs_u8, numS_size, List.extract_eq_take_drop, List.drop_zero, Nat.sub_zero, ← List.map_take] at h'
  have e := u8_inj (fun x hx => num_byte b x (List.mem_of_mem_take hx)) (num_byte a) h'
  have d := List.take_append_drop (num a).length (num b)
  rw [e] at d
  exact num_prefix a b _ d
theorem numS_nine {n : Nat} (h : n ≤ 4611686018427387904) : (numS n).size ≤ 9 := by
  rw [numS_size]
  exact num_len 8 n (by omega)
theorem wraps_i64 (n : Int) (h0 : 0 ≤ n) (h1 : n < 2 ^ 63) : IntKind.i64.wrap n = n := by rw [IntKind.wrap_i64]; omega
theorem digit_more (x : Int) : (Go.bits .or .i64 (Go.bits .and .i64 x 127) 128) % 256 = x % 128 + 128 := by
  rw [i64_and127, bits_join_low .i64 63 (by decide) wraps_i64 7 (x % 128) 128 (by omega) (by omega) (by omega) (by omega) (by omega) (by omega)]
  omega
end Go.Proofs.YtaodgnladjafoaaDoor.CdM
