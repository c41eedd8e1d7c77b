/- Plain facts on the two sums of Adler-32 over a list of bytes; no program in sight. -/
import Derived.Test.YtaodgnladjafoaaDoorWordsV
import Derived.Lib.EndianBits
namespace Go.Proofs.YtaodgnladjafoaaDoor.AdM
open Go.Proofs.YtaodgnladjafoaaDoorW.PrintWords

/-- both sums, told by a list of bytes -/
def S : List Int → Int
  | [] => 0
  | x :: l => x + S l
def W : List Int → Int
  | [] => 0
  | x :: l => ((l.length : Int) + 1) * x + W l
def fold : List Int → Int → Int → Int × Int
  | [], a, b => (a, b)
  | x :: l, a, b => fold l ((a + x) % 65521) ((b + (a + x) % 65521) % 65521)

theorem S_append (l m : List Int) : S (l ++ m) = S l + S m := by
  induction l with
  | nil => simp [S]
  | cons x l ih => simp only [List.cons_append, S, ih]; omega

theorem fold_eq (l : List Int) : ∀ a b : Int, fold l a b = 
    (if l = [] then a else (a + S l) % 65521, if l = [] then b else (b + l.length * a + W l) % 65521) := by
  induction l with
  | nil => intro a b; simp [fold]
  | cons x l ih =>
    intro a b
    simp only [fold, ih]
    by_cases hl : l = []
    · subst hl; simp [S, W]; omega
    · simp only [hl, if_false, S, W, List.length_cons, reduceCtorEq]
      refine Prod.ext ?_ ?_
      · simp only; omega
      · simp only
        have e1 : ((l.length : Int) * ((a + x) % 65521)) % 65521 = ((l.length : Int) * (a + x)) % 65521 := by
          rw [Int.mul_emod, Int.emod_emod, ← Int.mul_emod]
        have e2 : (((l.length + 1 : Nat) : Int)) * a = l.length * a + a := by
          rw [Int.natCast_add, Int.add_mul]; simp
        have e3 : ((l.length : Int) + 1) * x = l.length * x + x := by rw [Int.add_mul]; simp
        have e4 : (l.length : Int) * (a + x) = l.length * a + l.length * x := Int.mul_add _ _ _
        rw [e2, e3]; rw [e4] at e1
        generalize (l.length : Int) * ((a + x) % 65521) = u at *
        generalize (l.length : Int) * a = v at *
        generalize (l.length : Int) * x = w at *
        omega
def P : Int := 65521
/-- the two sums of a whole text -/
def A (l : List Int) : Int := (1 + S l) % 65521
def B (l : List Int) : Int := (l.length + W l) % 65521
theorem fold_AB (l : List Int) : fold l 1 0 = (A l, B l) := by
  rw [fold_eq]
  by_cases hl : l = []
  · subst hl; simp [A, B, S, W]
  · simp [hl, A, B]
theorem A_lt (l : List Int) : 0 ≤ A l ∧ A l < 65521 := by unfold A; omega
theorem B_lt (l : List Int) : 0 ≤ B l ∧ B l < 65521 := by unfold B; omega
theorem A_one (p q : List Int) (x y : Int) (hx : 0 ≤ x ∧ x < 256) (hy : 0 ≤ y ∧ y < 256) : A (p ++ x :: q) = A (p ++ y :: q) ↔ x = y := by
  unfold A; simp only [S_append, S]; omega
/-- a text's bytes as numbers -/
def bl (s : ByteArray) : List Int := s.data.toList.map fun c => (c.toNat : Int)
theorem bl_length (s : ByteArray) : (bl s).length = s.size := by simp [bl]
theorem bl_drop (s : ByteArray) (i : Nat) (h : i < s.size) : (bl s).drop i = bt s i :: (bl s).drop (i + 1) := by
  have hl : i < (bl s).length := by rw [bl_length]; exact h
  rw [List.drop_eq_getElem_cons hl]
  congr 1
  have e : ((i : Int)).toNat = i := Int.toNat_natCast i
  unfold bt
  rw [dif_pos (by rw [e]; exact h)]
  simp only [e]
  simp [bl]
  rfl
theorem or16 (x y : Int) (hx : 0 ≤ x ∧ x < 65521) (hy : 0 ≤ y ∧ y < 65521) : Go.bits .or .u32 ((x * 65536) % 4294967296) y = x * 65536 + y := by
  have e : (x * 65536) % 4294967296 = x * 65536 := by omega
  rw [e]
  exact bits_join .u32 32 (by decide) wraps_u32 16 (x * 65536) y (by omega) (by omega) (by omega) (by omega) (by omega) (by omega)
/-- the document's sum of a text -/
def sum (s : ByteArray) : Int := B (bl s) * 65536 + A (bl s)
end Go.Proofs.YtaodgnladjafoaaDoor.AdM
