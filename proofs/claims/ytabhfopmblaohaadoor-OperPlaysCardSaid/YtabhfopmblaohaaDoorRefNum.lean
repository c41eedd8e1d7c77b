/- The document's numbers: their bytes. -/
import Derived.Test.YtabhfopmblaohaaDoorQOperPlays
import Derived.Test.YtabhfopmblaohaaDoorCodeNum
set_option linter.unusedVariables false
set_option linter.unusedSimpArgs false
namespace Go.Proofs.YtabhfopmblaohaaDoor.Rfn
open Go.RowKit Go.Proofs.YtabhfopmblaohaaDoorW.PrintWords Go.Proofs.YtabhfopmblaohaaDoor.CdM Go.Proofs.YtabhfopmblaohaaDoor.QOperPlays
theorem bnd {α β : Type} {x : Option α} {f : α → Option β} {v : α} {r : Option β} (hx : x = some v) (h : f v = r) : x.bind f = r := by rw [hx]; exact h
theorem itp {α : Type} {c : Prop} {_ : Decidable c} {A B r : Option α} (hc : c) (h : A = r) : (if c then A else B) = r := by rw [if_pos hc]; exact h
theorem itn {α : Type} {c : Prop} {_ : Decidable c} {A B r : Option α} (hc : ¬ c) (h : B = r) : (if c then A else B) = r := by rw [if_neg hc]; exact h
theorem ofs_append (a b : List Int) : strOfNums a ++ strOfNums b = strOfNums (a ++ b) := by
  apply ByteArray.ext
  apply Array.toList_inj.1
  rw [ByteArray.data_append, Array.toList_append]
  simp [strOfNums]
theorem num_l : ∀ (n : Nat) (k : Nat) (acc : List Int), (num n).length ≤ k → acc.length + (num n).length ≤ 1000 → n ≤ 4611686018427387904 → shaleref04_Num.l0 k (n : Int) (strOfNums acc) = some (strOfNums (acc ++ digs n)) := by
  intro n
  induction n using Nat.strongRecOn with
  | _ n ih =>
    intro k acc hk hl hn
    have hp := num_pos n
    obtain ⟨k, rfl⟩ : ∃ m, k = m + 1 := ⟨k - 1, by omega⟩
    have z : ∀ x : Int, (strOfNums acc).size + (strOfNums [x]).size ≤ 9223372036854775807 := fun x => by rw [strOfNums_size, strOfNums_size]; simp; omega
    by_cases h : n < 128
    · have c1 : ¬ (n : Int) > 127 := by omega
      have e : (n : Int) % 256 = n := by omega
      have e2 : digs n = [(n : Int)] := by unfold digs; rw [num_small h]; rfl
      simp only [shaleref04_Num.l0]
      refine itn c1 ?_
      rw [e, e2]
      refine bnd rfl (itp (z _) ?_)
      rw [ofs_append]
    · have c1 : (n : Int) > 127 := by omega
      have hb := num_big h
      have hlen : (num n).length = (num (n / 128)).length + 1 := by rw [hb]; simp
      have e2 : digs n = ((n : Int) % 128 + 128) :: digs (n / 128) := by unfold digs; rw [hb]; simp
      have e4 : wrap64 (Int.tmod (n : Int) 128 + 128) % 256 = (n : Int) % 128 + 128 := by rw [Int.tmod_eq_emod_of_nonneg (by omega)]; unfold wrap64; omega
      have e3 : wrap64 (Int.tdiv (n : Int) 128) = ((n / 128 : Nat) : Int) := by rw [Int.tdiv_eq_ediv_of_nonneg (by omega)]; unfold wrap64; omega
      simp only [shaleref04_Num.l0]
      refine itp c1 ?_
      rw [e4, e3]
      refine bnd rfl (itp (z _) ?_)
      rw [ofs_append, ih (n / 128) (by omega) k _ (by omega) (by simp; omega) (by omega), e2]
      simp
theorem rnum_c (n : Nat) (hn : n ≤ 4611686018427387904) (w : World) : Calls Tryd.prog 28 #[.int .i64 (n : Int)] w fun e w' => e = .returned (.string (numS n)) ∧ Below w.heap.size w w' := by
  have h9 := numS_nine hn
  rw [numS_size] at h9
  refine shaleref04_Num.calls 11 (n : Int) _ w ?_
  have h := num_l n 11 [] (by omega) (by simp; omega) hn
  unfold shaleref04_Num.f
  exact h
theorem rnum_v (x : Int) (h0 : 0 ≤ x) (h1 : x ≤ 4611686018427387904) (w : World) : Calls Tryd.prog 28 #[.int .i64 x] w fun e w' => e = .returned (.string (numS x.toNat)) ∧ Below w.heap.size w w' := by
  have h := rnum_c x.toNat (by omega) w
  rw [show ((x.toNat : Nat) : Int) = x by omega] at h
  exact h
end Go.Proofs.YtabhfopmblaohaaDoor.Rfn
