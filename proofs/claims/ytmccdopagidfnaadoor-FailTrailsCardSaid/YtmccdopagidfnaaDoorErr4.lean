/- The text of a number (api.Errno.Error, the document's Text). -/
import Derived.Test.YtmccdopagidfnaaDoorErr3
import Derived.Test.YtmccdopagidfnaaDoorPFailUnlikex1
import Derived.Test.YtmccdopagidfnaaDoorQFailTexts
set_option linter.unusedVariables false
namespace Go.Proofs.YtmccdopagidfnaaDoor.Err
open Go.RowKit Go.Extern.Stop Go.Stop Go.Extern Go.Proofs.YtmccdopagidfnaaDoorW.PrintWords Go.Proofs.YtmccdopagidfnaaDoorW.PrintLast Go.Proofs.YtmccdopagidfnaaDoorW.PrintMore
theorem bnd {α β : Type} {x : Option α} {f : α → Option β} {v : α} {r : Option β} (hx : x = some v) (h : f v = r) : x.bind f = r := by rw [hx]; exact h
theorem itp {α : Type} {c : Prop} {_ : Decidable c} {A B r : Option α} (hc : c) (h : A = r) : (if c then A else B) = r := by rw [if_pos hc]; exact h
theorem itn {α : Type} {c : Prop} {_ : Decidable c} {A B r : Option α} (hc : ¬ c) (h : B = r) : (if c then A else B) = r := by rw [if_neg hc]; exact h
def two (n : Int) : ByteArray := strOfNums [(wrap64 (48 + (wrap64 (Int.tdiv n 10)))) % 256, (wrap64 (48 + (Int.tmod n 10))) % 256]
def errText (n : Int) : ByteArray := if 0 ≤ n ∧ n < 100 then (⟨#[101, 114, 114, 111, 114, 32]⟩ : ByteArray) ++ two n else ⟨#[101, 114, 114, 111, 114]⟩
theorem two_size : ∀ n : Fin 100, (two (n.val : Int)).size = 2 := by decide +kernel
def dec (s : ByteArray) : Int := ((s.data.toList.getD 6 0).toNat : Int) * 10 + (s.data.toList.getD 7 0).toNat - 528
theorem dec_at : ∀ n : Fin 100, dec (errText (n.val : Int)) = (n.val : Int) := by decide +kernel
theorem two_le (n : Int) (h0 : 0 ≤ n) (h1 : n < 100) : (two n).size = 2 := by
  have h := two_size ⟨n.toNat, by omega⟩
  rwa [show (((⟨n.toNat, by omega⟩ : Fin 100).val : Nat) : Int) = n by simp; omega] at h
theorem dec_le (n : Int) (h0 : 0 ≤ n) (h1 : n < 100) : dec (errText n) = n := by
  have h := dec_at ⟨n.toNat, by omega⟩
  rwa [show (((⟨n.toNat, by omega⟩ : Fin 100).val : Nat) : Int) = n by simp; omega] at h
theorem errText_le (n : Int) : (errText n).size ≤ 8 := by
  unfold errText
  by_cases h : 0 ≤ n ∧ n < 100
  · rw [if_pos h, ByteArray.size_append, two_le n h.1 h.2]; decide
  · rw [if_neg h]; decide
theorem err_at (n : Int) : PFailUnlike.api_Errno_Error.f n = some (errText n) := by
  unfold PFailUnlike.api_Errno_Error.f errText
  by_cases h0 : n ≥ 0
  · by_cases h1 : n < 100
    · have hs := two_le n h0 h1
      rw [if_pos (show 0 ≤ n ∧ n < 100 from ⟨h0, h1⟩)]
      refine itp h0 (itp h1 (bnd rfl (itp ?_ rfl)))
      show 6 + (two n).size ≤ _
      omega
    · rw [if_neg (show ¬(0 ≤ n ∧ n < 100) by omega)]
      exact itp h0 (itn h1 rfl)
  · rw [if_neg (show ¬(0 ≤ n ∧ n < 100) by omega)]
    exact itn h0 rfl
theorem text_at (n : Int) : QFailTexts.shaleref01_Text.f n = some (errText n) := by
  unfold QFailTexts.shaleref01_Text.f errText
  by_cases h0 : n < 0
  · rw [if_neg (show ¬(0 ≤ n ∧ n < 100) by omega)]
    exact itp h0 rfl
  · by_cases h1 : n > 99
    · rw [if_neg (show ¬(0 ≤ n ∧ n < 100) by omega)]
      exact itn h0 (itp h1 rfl)
    · have hs := two_le n (by omega) (by omega)
      rw [if_pos (show 0 ≤ n ∧ n < 100 by omega)]
      refine itn h0 (itn h1 (bnd rfl (itp ?_ rfl)))
      show 6 + (two n).size ≤ _
      omega
theorem err_c (n : Int) (s : ByteArray) (h : Hid (errText n = s)) (w : World) : Calls Tryd.prog 14 #[.int .i64 n] w fun e w' => e = .returned (.string s) ∧ Below w.heap.size w w' :=
  PFailUnlike.api_Errno_Error.calls n s w (by rw [← h.out]; exact err_at n)
theorem ba_ne {s t : ByteArray} (h : s ≠ t) : (s.toList == t.toList) = false := by
  have e : s.toList ≠ t.toList := fun he => h (by
    rw [ByteArray.toList_eq, ByteArray.toList_eq] at he
    exact ByteArray.ext (Array.toList_inj.1 he))
  exact beq_false_of_ne e
theorem err_eq (x y : Int) (hx0 : 0 ≤ x) (hx1 : x < 100) (hy0 : 0 ≤ y) (hy1 : y < 100) : ((errText x).toList == (errText y).toList) = (x == y) := by
  by_cases h : x = y
  · subst h; simp
  · rw [beq_false_of_ne h]
    exact ba_ne fun he => h (by have := congrArg dec he; rwa [dec_le x hx0 hx1, dec_le y hy0 hy1] at this)
end Go.Proofs.YtmccdopagidfnaaDoor.Err
