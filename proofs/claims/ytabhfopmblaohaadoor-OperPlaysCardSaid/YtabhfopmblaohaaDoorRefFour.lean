/- The document's four bytes of a number: they are the text's. -/
import Derived.Test.YtabhfopmblaohaaDoorRefNum
import Derived.Test.YtabhfopmblaohaaDoorAdlerQ
set_option linter.unusedVariables false
set_option linter.unusedSimpArgs false
namespace Go.Proofs.YtabhfopmblaohaaDoor.Rfn
open Go.RowKit Go.Proofs.YtabhfopmblaohaaDoorW.PrintWords Go.Proofs.YtabhfopmblaohaaDoor.CdM Go.Proofs.YtabhfopmblaohaaDoor.QOperPlays Go.Proofs.YtabhfopmblaohaaDoor.AdQ
theorem four_step (k : Nat) (x : Int) (s : ByteArray) (i : Nat) (hi : i < 4) (hx : 0 ≤ x ∧ x < 4294967296) (hs : s.size ≤ 1000) (r : Option ByteArray) (h : shaleref02_Four.l0 k (x / 256) (strOfNums [x % 256] ++ s) ((i + 1 : Nat) : Int) = r) : shaleref02_Four.l0 (k + 1) x s (i : Int) = r := by
  have c1 : (i : Int) < 4 := by omega
  have e1 : Int.tmod x 256 % 256 = x % 256 := by rw [Int.tmod_eq_emod_of_nonneg hx.1]; omega
  have e2 : Int.tdiv x 256 % 4294967296 = x / 256 := by rw [Int.tdiv_eq_ediv_of_nonneg hx.1]; omega
  have e3 : wrap64 ((i : Int) + 1) = ((i + 1 : Nat) : Int) := by unfold wrap64; omega
  have e4 : (strOfNums [x % 256]).size + s.size ≤ 9223372036854775807 := by rw [strOfNums_size]; simp; omega
  simp only [shaleref02_Four.l0]
  rw [e1, e2, e3]
  exact itp c1 (bnd rfl (itp e4 h))
theorem four_at (x : Int) (hx : 0 ≤ x ∧ x < 4294967296) (k : Nat) : shaleref02_Four.f (k + 1 + 1 + 1 + 1 + 1) x = some (fourS x) := by
  unfold shaleref02_Four.f
  have z : ∀ l : List Int, l.length ≤ 10 → (strOfNums l).size ≤ 1000 := fun l h => by rw [strOfNums_size]; omega
  have z0 : (⟨#[]⟩ : ByteArray) = strOfNums [] := rfl
  rw [z0]
  refine four_step _ x _ 0 (by omega) hx (z _ (by simp)) _ ?_
  rw [ofs_append]
  refine four_step _ _ _ 1 (by omega) (by omega) (z _ (by simp)) _ ?_
  rw [ofs_append]
  refine four_step _ _ _ 2 (by omega) (by omega) (z _ (by simp)) _ ?_
  rw [ofs_append]
  refine four_step _ _ _ 3 (by omega) (by omega) (z _ (by simp)) _ ?_
  rw [ofs_append]
  simp only [shaleref02_Four.l0]
  refine itn (by decide) ?_
  unfold fourS
  congr 2
  simp only [List.append_nil, List.cons_append, List.nil_append]
  have e1 : x / 256 / 256 / 256 % 256 = x / 16777216 % 256 := by omega
  have e2 : x / 256 / 256 % 256 = x / 65536 % 256 := by omega
  rw [e1, e2]
theorem rfour_c (x : Int) (hx : 0 ≤ x ∧ x < 4294967296) (w : World) : Calls Tryd.prog 34 #[.int .u32 x] w fun e w' => e = .returned (.string (fourS x)) ∧ Below w.heap.size w w' :=
  shaleref02_Four.calls _ x _ w (four_at x hx 10)
end Go.Proofs.YtabhfopmblaohaaDoor.Rfn
