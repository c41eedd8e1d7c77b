/- What the functions of package space, and the reference's, answer: told outright, for every list of places of up to a billion and every number. -/
import Derived.Test.YtnpndfcghfoofaaDoorPSpaceFillsx1
import Derived.Test.YtnpndfcghfoofaaDoorSpace
import Derived.Lib.Hide
namespace Go.Proofs.YtnpndfcghfoofaaDoor.SpC
open Go.RowKit Go.Proofs.YtnpndfcghfoofaaDoor.PSpaceFills Go.Proofs.YtnpndfcghfoofaaDoorW.PrintWords Go.Proofs.YtnpndfcghfoofaaDoorW.PrintLast Go.Proofs.YtnpndfcghfoofaaDoorW.PrintMore Go.Proofs.YtnpndfcghfoofaaDoor.SpM
theorem bnd {α β : Type} {x : Option α} {f : α → Option β} {v : α} {r : Option β} (hx : x = some v) (h : f v = r) : x.bind f = r := by rw [hx]; exact h
theorem itp {α : Type} {c : Prop} {_ : Decidable c} {A B r : Option α} (hc : c) (h : A = r) : (if c then A else B) = r := by rw [if_pos hc]; exact h
theorem itn {α : Type} {c : Prop} {_ : Decidable c} {A B r : Option α} (hc : ¬ c) (h : B = r) : (if c then A else B) = r := by rw [if_neg hc]; exact h
theorem below_on {B : Nat} {w w1 w2 : World} (h : Hid (Below B w w1)) (hB : B ≤ w.heap.size) (k : Below w1.heap.size w1 w2) : Hid (Below B w w2) :=
  h.out.trans (k.mono (Nat.le_trans hB h.out.size))
theorem w1_of (i : Nat) (h : i ≤ 1000000000) : wrap64 ((i : Int) + 1) = ((i + 1 : Nat) : Int) := by unfold wrap64; omega
theorem first_l (xs : List Bool) (n : Int) (hl : xs.length ≤ 1000000000) : ∀ (d k i : Nat), i + d = xs.length → d < k →
    space_First.l0 k n (run xs i : Int) xs (xs.length : Int) (i : Int) = some (find xs n d i) := by
  intro d
  induction d with
  | zero =>
    intro k i hi hk
    obtain ⟨k, rfl⟩ : ∃ m, k = m + 1 := ⟨k - 1, by omega⟩
    have c1 : ¬ (i : Int) < (xs.length : Int) := by omega
    simp only [space_First.l0]
    exact itn c1 rfl
  | succ d ih =>
    intro k i hi hk
    obtain ⟨k, rfl⟩ : ∃ m, k = m + 1 := ⟨k - 1, by omega⟩
    have c1 : (i : Int) < (xs.length : Int) := by omega
    have c2 : (0 : Int) ≤ (i : Int) := Int.natCast_nonneg i
    have e1 := w1_of i (by omega)
    have hr := run_le xs i
    have e2 := w1_of (run xs i) (by omega)
    have hg := rd_get xs i (by omega)
    have hs := run_succ xs i
    have hI := ih k (i + 1) (by omega) (by omega)
    simp only [space_First.l0]
    refine itp c1 (itp c2 (itp c1 ?_))
    rw [hg, e1]
    by_cases hu : xs.getD i true = true
    · rw [if_pos hu] at hs ⊢
      have hz : (0 : Int) = ((run xs (i + 1) : Nat) : Int) := by rw [hs]; rfl
      have hf : find xs n (d + 1) i = find xs n d (i + 1) := by
        simp only [find]
        rw [if_neg (fun h => by omega)]
      rw [hf, ← hI, ← hz]
      by_cases hn : n ≥ 1
      · exact itp hn (itn (by omega) rfl)
      · exact itn hn rfl
    · rw [if_neg hu] at hs ⊢
      rw [e2, ← hs]
      by_cases hn : n ≥ 1
      · refine itp hn ?_
        by_cases he : ((run xs (i + 1) : Nat) : Int) = n
        · refine itp he ?_
          have hf : find xs n (d + 1) i = ((i : Int) - n + 1, true) := by
            simp only [find]
            rw [if_pos ⟨hn, he⟩]
          rw [hf]
          have w1 : wrap64 ((i : Int) - n) = (i : Int) - n := by unfold wrap64; omega
          have w2 : wrap64 ((i : Int) - n + 1) = (i : Int) - n + 1 := by unfold wrap64; omega
          rw [w1, w2]
        · refine itn he ?_
          have hf : find xs n (d + 1) i = find xs n d (i + 1) := by
            simp only [find]
            rw [if_neg (fun h => he h.2)]
          rw [hf]
          exact hI
      · refine itn hn ?_
        have hf : find xs n (d + 1) i = find xs n d (i + 1) := by
          simp only [find]
          rw [if_neg (fun h => hn h.1)]
        rw [hf]
        exact hI
theorem first_at (xs : List Bool) (n : Int) (hl : xs.length ≤ 1000000000) : space_First.f (xs.length + 1) xs n = some (find xs n xs.length 0) := by
  have h := first_l xs n hl xs.length (xs.length + 1) 0 (by omega) (by omega)
  exact h
theorem first_c (xs : List Bool) (n : Int) (A : Option Addr) (c : Nat) (w : World) (hl : xs.length ≤ 1000000000) (hc : xs.length ≤ c) (h : Kd.C Kd.bool w A xs.length xs) :
    Calls Tryd.prog 8 #[.slice A xs.length c, .int .i64 n] w fun e w' => e = .returned (.tuple #[.int .i64 (find xs n xs.length 0).1, .bool (find xs n xs.length 0).2]) ∧ Drawn0 w w' :=
  space_First.calls (xs.length + 1) A c xs n _ _ w h hc (first_at xs n hl)
theorem longest_l (xs : List Bool) (hl : xs.length ≤ 1000000000) : ∀ (d k i : Nat), i + d = xs.length → d < k →
    space_Longest.l0 k (best xs i : Int) (run xs i : Int) xs (xs.length : Int) (i : Int) = some (best xs xs.length : Int) := by
  intro d
  induction d with
  | zero =>
    intro k i hi hk
    obtain ⟨k, rfl⟩ : ∃ m, k = m + 1 := ⟨k - 1, by omega⟩
    have c1 : ¬ (i : Int) < (xs.length : Int) := by omega
    obtain rfl : i = xs.length := by omega
    simp only [space_Longest.l0]
    exact itn c1 rfl
  | succ d ih =>
    intro k i hi hk
    obtain ⟨k, rfl⟩ : ∃ m, k = m + 1 := ⟨k - 1, by omega⟩
    have c1 : (i : Int) < (xs.length : Int) := by omega
    have c2 : (0 : Int) ≤ (i : Int) := Int.natCast_nonneg i
    have e1 := w1_of i (by omega)
    have hr := run_le xs i
    have e2 := w1_of (run xs i) (by omega)
    have hg := rd_get xs i (by omega)
    have hs := run_succ xs i
    have hI := ih k (i + 1) (by omega) (by omega)
    have hm : ∀ a b : Nat, mx (a : Int) (b : Int) = ((max a b : Nat) : Int) := fun a b => by unfold mx; split <;> omega
    have hb : best xs (i + 1) = max (best xs i) (run xs (i + 1)) := rfl
    simp only [space_Longest.l0]
    refine itp c1 (itp c2 (itp c1 ?_))
    rw [hg, e1, e2]
    by_cases hu : xs.getD i true = true
    · rw [if_pos hu] at hs ⊢
      have h0 := hm (best xs i) 0
      rw [show ((0 : Nat) : Int) = 0 from rfl] at h0
      rw [h0]
      rw [hb, hs] at hI
      exact hI
    · rw [if_neg hu] at hs ⊢
      rw [hm]
      rw [hb, hs] at hI
      exact hI
theorem longest_c (xs : List Bool) (A : Option Addr) (c : Nat) (w : World) (hl : xs.length ≤ 1000000000) (hc : xs.length ≤ c) (h : Kd.C Kd.bool w A xs.length xs) :
    Calls Tryd.prog 9 #[.slice A xs.length c] w fun e w' => e = .returned (.int .i64 (best xs xs.length : Int)) ∧ Below w.heap.size w w' :=
  space_Longest.calls (xs.length + 1) A c xs _ w h hc (longest_l xs hl xs.length (xs.length + 1) 0 (by omega) (by omega))
theorem free_l (xs : List Bool) (hl : xs.length ≤ 1000000000) : ∀ (d k i : Nat), i + d = xs.length → d < k →
    space_Free.l0 k (free xs i : Int) xs (xs.length : Int) (i : Int) = some (free xs xs.length : Int) := by
  intro d
  induction d with
  | zero =>
    intro k i hi hk
    obtain ⟨k, rfl⟩ : ∃ m, k = m + 1 := ⟨k - 1, by omega⟩
    have c1 : ¬ (i : Int) < (xs.length : Int) := by omega
    obtain rfl : i = xs.length := by omega
    simp only [space_Free.l0]
    exact itn c1 rfl
  | succ d ih =>
    intro k i hi hk
    obtain ⟨k, rfl⟩ : ∃ m, k = m + 1 := ⟨k - 1, by omega⟩
    have c1 : (i : Int) < (xs.length : Int) := by omega
    have c2 : (0 : Int) ≤ (i : Int) := Int.natCast_nonneg i
    have e1 := w1_of i (by omega)
    have hr := free_le xs i
    have e2 := w1_of (free xs i) (by omega)
    have hg := rd_get xs i (by omega)
    have hs : free xs (i + 1) = (if xs.getD i true = true then 0 else 1) + free xs i := rfl
    have hI := ih k (i + 1) (by omega) (by omega)
    simp only [space_Free.l0]
    refine itp c1 (itp c2 (itp c1 ?_))
    rw [hg, e1, e2]
    by_cases hu : xs.getD i true = true
    · rw [if_pos hu] at hs ⊢
      rw [hs, Nat.zero_add] at hI
      exact hI
    · rw [if_neg hu] at hs ⊢
      rw [hs, Nat.add_comm 1] at hI
      exact hI
theorem free_c (xs : List Bool) (A : Option Addr) (c : Nat) (w : World) (hl : xs.length ≤ 1000000000) (hc : xs.length ≤ c) (h : Kd.C Kd.bool w A xs.length xs) :
    Calls Tryd.prog 7 #[.slice A xs.length c] w fun e w' => e = .returned (.int .i64 (free xs xs.length : Int)) ∧ Drawn0 w w' :=
  space_Free.calls (xs.length + 1) A c xs _ w h hc (free_l xs hl xs.length (xs.length + 1) 0 (by omega) (by omega))
end Go.Proofs.YtnpndfcghfoofaaDoor.SpC
