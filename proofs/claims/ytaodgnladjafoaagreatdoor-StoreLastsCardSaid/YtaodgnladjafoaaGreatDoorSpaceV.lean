/- Words that the proof uses. -/
import Derived.Test.YtaodgnladjafoaaGreatDoorWordsV
namespace Go.Proofs.YtaodgnladjafoaaGreatDoor.SpM
open Go.RowKit Go.Proofs.YtaodgnladjafoaaGreatDoorW.PrintWords
def run : List Bool → Nat → Nat
  | _, 0 => 0
  | xs, i + 1 => if xs.getD i true then 0 else run xs i + 1
theorem run_le (xs : List Bool) (i : Nat) : run xs i ≤ i := by
  induction i with
  | zero => simp [run]
  | succ i ih => simp only [run]; split <;> omega
theorem run_free (xs : List Bool) : ∀ (i j : Nat), i - run xs i ≤ j → j < i → xs.getD j true = false := by
  intro i
  induction i with
  | zero => intro j _ h; omega
  | succ i ih =>
    intro j h1 h2
    simp only [run] at h1
    split at h1
    · omega
    · rename_i hu
      by_cases e : j = i
      · subst e; simpa using hu
      · exact ih j (by omega) (by omega)
theorem run_of_free (xs : List Bool) (a n : Nat) (h : ∀ j, a ≤ j → j < a + n → xs.getD j true = false) : n ≤ run xs (a + n) := by
  induction n with
  | zero => simp
  | succ n ih =>
    have h1 := ih (fun j h1 h2 => h j h1 (by omega))
    have h2 := h (a + n) (by omega) (by omega)
    show n + 1 ≤ run xs (a + n + 1)
    simp only [run, h2]
    simpa using h1
theorem run_pass (xs : List Bool) : ∀ (i n : Nat), n ≤ run xs i → 1 ≤ n → ∃ j, j ≤ i ∧ run xs j = n := by
  intro i
  induction i with
  | zero => intro n h1 h2; simp [run] at h1; omega
  | succ i ih =>
    intro n h1 h2
    by_cases e : run xs (i + 1) = n
    · exact ⟨i + 1, by omega, e⟩
    · have hx : run xs (i + 1) = (if xs.getD i true then 0 else run xs i + 1) := rfl
      rw [hx] at h1 e
      split at h1
      · omega
      · rename_i hu
        rw [if_neg (by simpa using hu)] at e
        obtain ⟨j, hj, hr⟩ := ih n (by omega) h2
        exact ⟨j, by omega, hr⟩
theorem lt_of_no (xs : List Bool) (n i : Nat) (h1 : 1 ≤ n) (h : ∀ j, j < i → run xs (j + 1) ≠ n) : ∀ j, j ≤ i → run xs j < n := by
  intro j hj
  by_cases e : run xs j < n
  · exact e
  · obtain ⟨k, hk, hr⟩ := run_pass xs j n (by omega) h1
    cases k with
    | zero => simp [run] at hr; omega
    | succ k => exact absurd hr (h k (by omega))

def find (xs : List Bool) (n : Int) : Nat → Nat → Int × Bool
  | 0, _ => (0, false)
  | d + 1, i => if 1 ≤ n ∧ (run xs (i + 1) : Int) = n then ((i : Int) - n + 1, true) else find xs n d (i + 1)
theorem find_spec (xs : List Bool) (n : Int) (hn : 1 ≤ n) : ∀ (d i : Nat), (∃ j, i ≤ j ∧ j < i + d ∧ (run xs (j + 1) : Int) = n ∧ (∀ m, i ≤ m → m < j → (run xs (m + 1) : Int) ≠ n) ∧ find xs n d i = ((j : Int) - n + 1, true)) ∨
    ((∀ j, i ≤ j → j < i + d → (run xs (j + 1) : Int) ≠ n) ∧ find xs n d i = (0, false)) := by
  intro d
  induction d with
  | zero => intro i; exact .inr ⟨fun j h1 h2 => by omega, rfl⟩
  | succ d ih =>
    intro i
    by_cases h : (run xs (i + 1) : Int) = n
    · refine .inl ⟨i, Nat.le_refl _, by omega, h, fun m h1 h2 => by omega, ?_⟩
      simp only [find]
      rw [if_pos ⟨hn, h⟩]
    · have e : find xs n (d + 1) i = find xs n d (i + 1) := by
        simp only [find]
        rw [if_neg (fun hh => h hh.2)]
      rcases ih (i + 1) with ⟨j, h1, h2, h3, h4, h5⟩ | ⟨h1, h2⟩
      · refine .inl ⟨j, by omega, by omega, h3, fun m hm1 hm2 => ?_, e.trans h5⟩
        by_cases hm : m = i
        · subst hm; exact h
        · exact h4 m (by omega) hm2
      · refine .inr ⟨fun j hj1 hj2 => ?_, e.trans h2⟩
        by_cases hm : j = i
        · subst hm; exact h
        · exact h1 j (by omega) (by omega)
theorem rd_get (xs : List Bool) (i : Nat) (h : i < xs.length) : rdOf false xs (i : Int) = xs.getD i true := by
  unfold rdOf
  rw [Int.toNat_natCast, List.getD_eq_getElem?_getD, List.getD_eq_getElem?_getD, List.getElem?_eq_getElem h]
  rfl
theorem run_succ (xs : List Bool) (i : Nat) : run xs (i + 1) = if xs.getD i true = true then 0 else run xs i + 1 := rfl
def least (xs : List Bool) (n : Nat) : Nat → Nat → Int
  | 0, _ => -1
  | d + 1, i => if n ≤ xs.length ∧ i + n ≤ xs.length ∧ n ≤ run xs (i + n) then (i : Int) else least xs n d (i + 1)
theorem least_spec (xs : List Bool) (n : Nat) : ∀ (d i : Nat), (∃ j, i ≤ j ∧ j < i + d ∧ j + n ≤ xs.length ∧ n ≤ run xs (j + n) ∧ (∀ m, i ≤ m → m < j → m + n ≤ xs.length → ¬ n ≤ run xs (m + n)) ∧ least xs n d i = (j : Int)) ∨
    ((∀ j, i ≤ j → j < i + d → j + n ≤ xs.length → ¬ n ≤ run xs (j + n)) ∧ least xs n d i = -1) := by
  intro d
  induction d with
  | zero => intro i; exact .inr ⟨fun j h1 h2 => by omega, rfl⟩
  | succ d ih =>
    intro i
    by_cases h : n ≤ xs.length ∧ i + n ≤ xs.length ∧ n ≤ run xs (i + n)
    · refine .inl ⟨i, Nat.le_refl _, by omega, h.2.1, h.2.2, fun m h1 h2 => by omega, ?_⟩
      simp only [least]
      rw [if_pos h]
    · have e : least xs n (d + 1) i = least xs n d (i + 1) := by
        simp only [least]
        rw [if_neg h]
      have hi : i + n ≤ xs.length → ¬ n ≤ run xs (i + n) := fun h1 h2 => h ⟨by omega, h1, h2⟩
      rcases ih (i + 1) with ⟨j, h1, h2, h3, h4, h5, h6⟩ | ⟨h1, h2⟩
      · refine .inl ⟨j, by omega, by omega, h3, h4, fun m hm1 hm2 => ?_, e.trans h6⟩
        by_cases hm : m = i
        · subst hm; exact hi
        · exact h5 m (by omega) hm2
      · refine .inr ⟨fun j hj1 hj2 => ?_, e.trans h2⟩
        by_cases hm : j = i
        · subst hm; exact hi
        · exact h1 j (by omega) (by omega)
theorem find_least (xs : List Bool) (n : Nat) (hn : 1 ≤ n) : (∃ j, j < xs.length ∧ n ≤ j + 1 ∧ find xs n xs.length 0 = ((j : Int) - n + 1, true) ∧ least xs n xs.length 0 = (j : Int) - n + 1 ∧ run xs (j + 1) = n ∧ ∀ m, m < j → run xs (m + 1) < n) ∨
    (find xs n xs.length 0 = (0, false) ∧ least xs n xs.length 0 = -1 ∧ ∀ m, m ≤ xs.length → run xs m < n) := by
  rcases find_spec xs n (by omega) xs.length 0 with ⟨j, _, h2, h3, h4, h5⟩ | ⟨h1, h2⟩
  · left
    have h3' : run xs (j + 1) = n := by omega
    have hr := run_le xs (j + 1)
    have hno := lt_of_no xs n j hn (fun m hm h => h4 m (by omega) hm (by omega))
    refine ⟨j, by omega, by omega, h5, ?_, h3', fun m hm => hno (m + 1) (by omega)⟩
    rcases least_spec xs n xs.length 0 with ⟨i, _, g2, g3, g4, g5, g6⟩ | ⟨g1, _⟩
    · rw [g6]
      have a1 : ¬ i + n < j + 1 := fun h => by
        have := hno (i + n) (by omega)
        omega
      have a2 : ¬ j + 1 - n < i := fun h => by
        refine g5 (j + 1 - n) (by omega) h (by omega) ?_
        rw [show j + 1 - n + n = j + 1 by omega]
        omega
      omega
    · exfalso
      refine g1 (j + 1 - n) (by omega) (by omega) (by omega) ?_
      rw [show j + 1 - n + n = j + 1 by omega]
      omega
  · right
    have hno := lt_of_no xs n xs.length hn (fun m hm h => h1 m (by omega) (by omega) (by omega))
    refine ⟨h2, ?_, hno⟩
    rcases least_spec xs n xs.length 0 with ⟨i, _, g2, g3, g4, g5, g6⟩ | ⟨_, g2⟩
    · exfalso
      have := hno (i + n) g3
      omega
    · exact g2
end Go.Proofs.YtaodgnladjafoaaGreatDoor.SpM
