/- code.Num and code.Str at numbers and texts within bounds; where a number's bytes stand. -/
import Derived.Test.YtabhfopmblaohaaDoorQOperBack
import Derived.Test.YtabhfopmblaohaaDoorReaderAll
set_option linter.unusedVariables false
namespace Go.Proofs.YtabhfopmblaohaaDoor.Rdr
open Go.RowKit Go.Proofs.YtabhfopmblaohaaDoorW.PrintWords Go.Proofs.YtabhfopmblaohaaDoorW.PrintLast Go.Proofs.YtabhfopmblaohaaDoorW.PrintMore Go.Proofs.YtabhfopmblaohaaDoor.CdM Go.Proofs.YtabhfopmblaohaaDoor.Md Go.Proofs.YtabhfopmblaohaaDoor.QOperBack
theorem bnd {α β : Type} {x : Option α} {f : α → Option β} {v : α} {r : Option β} (hx : x = some v) (h : f v = r) : x.bind f = r := by rw [hx]; exact h
theorem itp {α : Type} {c : Prop} {_ : Decidable c} {A B r : Option α} (hc : c) (h : A = r) : (if c then A else B) = r := by rw [if_pos hc]; exact h
theorem itn {α : Type} {c : Prop} {_ : Decidable c} {A B r : Option α} (hc : ¬ c) (h : B = r) : (if c then A else B) = r := by rw [if_neg hc]; exact h
theorem num_l : ∀ (n : Nat) (k : Nat) (acc : List Int), (num n).length ≤ k → acc.length + (num n).length ≤ 1000 → code_Num.l0 k (n : Int) acc = some (strOfNums (acc ++ digs n)) := by
  intro n
  induction n using Nat.strongRecOn with
  | _ n ih =>
    intro k acc hk hl
    have hp := num_pos n
    obtain ⟨k, rfl⟩ : ∃ m, k = m + 1 := ⟨k - 1, by omega⟩
    have c2 : acc.length < 140737488355328 := by omega
    by_cases h : n < 128
    · have c1 : ¬ (n : Int) ≥ 128 := by omega
      have e : (n : Int) % 256 = n := by omega
      have e2 : digs n = [(n : Int)] := by unfold digs; rw [num_small h]; rfl
      simp only [code_Num.l0]
      refine itn c1 (itp c2 ?_)
      rw [e, e2]
    · have c1 : (n : Int) ≥ 128 := by omega
      have hb := num_big h
      have hlen : (num n).length = (num (n / 128)).length + 1 := by rw [hb]; simp
      have e2 : digs n = ((n : Int) % 128 + 128) :: digs (n / 128) := by unfold digs; rw [hb]; simp
      have e3 : (n : Int) / 128 = ((n / 128 : Nat) : Int) := by omega
      simp only [code_Num.l0]
      refine itp c1 (itp c2 ?_)
      rw [digit_more, e3, ih (n / 128) (by omega) k _ (by omega) (by simp; omega), e2]
      simp
theorem num_at (n : Nat) (hn : n ≤ 4611686018427387904) (k : Nat) (hk : 11 ≤ k) : code_Num.f k (n : Int) = some (numS n) := by
  have h9 := numS_nine hn
  rw [numS_size] at h9
  obtain ⟨k, rfl⟩ : ∃ m, k = m + 1 := ⟨k - 1, by omega⟩
  have c1 : ¬ (n : Int) < 0 := by omega
  have c2 : ¬ (n : Int) > 4611686018427387904 := by omega
  have hd : decide ((n : Int) > 4611686018427387904) = false := decide_eq_false c2
  have c3 : ¬ (false = true) := by decide
  have hl := num_l n k [] (by omega) (by simp; omega)
  unfold code_Num.f
  refine itn c1 ?_
  rw [hd]
  simp only [code_Num.j0]
  exact itn c3 hl
theorem cnum_c (n : Nat) (w : World) (h : n ≤ 4611686018427387904) : Calls Tryd.prog 23 #[.int .i64 (n : Int)] w fun e w' => e = .returned (.string (numS n)) ∧ Below w.heap.size w w' :=
  code_Num.calls 11 _ _ w (num_at n h 11 (Nat.le_refl _))
theorem str_at (s : ByteArray) (hs : s.size ≤ 4611686018427387904) (k : Nat) (hk : 11 ≤ k) : code_Str.f k s = some (numS s.size ++ s) := by
  have h9 := numS_nine hs
  unfold code_Str.f
  exact bnd (num_at _ hs k hk) (itp (by omega) rfl)
theorem cstr_c (s : ByteArray) (w : World) (h : s.size ≤ 4611686018427387904) : Calls Tryd.prog 24 #[.string s] w fun e w' => e = .returned (.string (numS s.size ++ s)) ∧ Below w.heap.size w w' :=
  code_Str.calls 11 _ _ w (str_at s h 11 (Nat.le_refl _))
/-- where a number's bytes stand in a text -/
theorem stands_mid (a c : ByteArray) (y : Nat) : Stands (a ++ numS y ++ c) a.size y := by
  intro j hj
  have hl : (numS y).size = (num y).length := numS_size y
  have h1 : a.size + j < (a ++ numS y ++ c).size := by simp only [ByteArray.size_append]; omega
  refine ⟨h1, ?_⟩
  have e1 : (a ++ numS y ++ c)[a.size + j]'h1 = (numS y)[j]'(by omega) := by
    rw [ByteArray.getElem_append_left (by simp only [ByteArray.size_append]; omega), ByteArray.getElem_append_right (by omega)]
    congr 1; omega
  rw [e1]
  have e2 : (numS y)[j]'(by omega) = (numS y).data.toList[j]'(by rw [Array.length_toList]; have : (numS y).data.size = (numS y).size := rfl; omega) := by
    rw [Array.getElem_toList]; rfl
  rw [e2]
  have e3 : ∀ (l : List UInt8) (h : l = (num y).map UInt8.ofNat) (h2 : j < l.length), (l[j]'h2).toNat = (num y).getD j 0 := by
    intro l h h2
    subst h
    have hj' : j < (num y).length := by simpa using h2
    have hb := num_byte y ((num y)[j]'hj') (List.getElem_mem hj')
    simp [List.getD_eq_getElem?_getD, List.getElem?_eq_getElem hj']
    omega
  exact e3 _ (digs_u8 y) _
theorem below_to {B : Nat} {w w1 w2 : World} (h : Hid (Below B w w1)) (hB : B ≤ w.heap.size) (k : Below w1.heap.size w1 w2) : Hid (Below B w w2) :=
  h.out.trans (k.mono (Nat.le_trans hB h.out.size))
theorem mod_to {B : Nat} {w w1 w2 : World} {R : Nat} (h : Hid (Below B w w1)) (hB : B ≤ w.heap.size) (hR : B ≤ R) (k : Mod (· = R) w1 w2) : Hid (Below B w w2) :=
  h.out.trans (k.below (Nat.le_trans hB h.out.size) (by intro i hi (e : i = R); omega))
theorem bel_has {R : Nat} {w1 w2 : World} {s : ByteArray} {p : Nat} (h : Hid (Has w1 R s p)) (k : Below w1.heap.size w1 w2) : Hid (Has w2 R s p) :=
  Lib.hid (h.out.mod (Mod.of_below (S := fun _ => False) k (Nat.le_refl _)) (fun h => h))
theorem str_v (R : Nat) (s : ByteArray) (p x : Nat) (most : Int) (t : ByteArray) (q2 : Nat) (w : World) (h : Hid (Has w R s p)) (hst : Hid (Stands s p x)) (hs : s.size ≤ 4611686018427387904) (hx : x ≤ 4611686018427387904) (hxm : (x : Int) ≤ most) (hq2 : Hid (q2 = p + (num x).length + x)) (hle : q2 ≤ s.size) (ht : Hid (s.extract (p + (num x).length) q2 = t)) :
    Calls Tryd.prog 32 #[.pointer (some ⟨R, 0, none⟩), .int .i64 most] w fun ev w' => ev = .returned (.tuple #[.string t, .nilIface]) ∧ Mod (· = R) w w' ∧ Has w' R s q2 := by
  have e := ht.out
  subst e
  exact str_c R s p x most w h hst hs hx hxm _ (Lib.hid rfl) q2 hq2 hle
theorem num_v (R : Nat) (s : ByteArray) (p x : Nat) (most : Int) (q : Nat) (w : World) (h : Hid (Has w R s p)) (hst : Hid (Stands s p x)) (hs : s.size ≤ 4611686018427387904) (hx : x ≤ 4611686018427387904) (hxm : (x : Int) ≤ most) (hq : Hid (q = p + (num x).length)) :
    Calls Tryd.prog 31 #[.pointer (some ⟨R, 0, none⟩), .int .i64 most] w fun ev w' => ev = .returned (.tuple #[.int .i64 (x : Int), .nilIface]) ∧ Mod (· = R) w w' ∧ Has w' R s q := by
  rw [hq.out]
  exact num_c R s p x most w h hst hs hx hxm
theorem left_v (R : Nat) (s : ByteArray) (p : Nat) (l : Int) (w : World) (h : Hid (Has w R s p)) (hp : p ≤ s.size) (hs : s.size ≤ 4611686018427387904) (hl : Hid ((s.size : Int) - (p : Int) = l)) :
    Calls Tryd.prog 37 #[.pointer (some ⟨R, 0, none⟩)] w fun ev w' => ev = .returned (.int .i64 l) ∧ w'.heap = w.heap ∧ Below w.heap.size w w' := by
  rw [← hl.out]
  exact left_c R s p w h hp hs
theorem new_v (s : ByteArray) (w : World) : Calls Tryd.prog 18 #[.string s] w fun ev w' => ∃ R, w.heap.size ≤ R ∧ ev = .returned (.pointer (some ⟨R, 0, none⟩)) ∧ Hid (Has w' R s 0) ∧ Below w.heap.size w w' := by
  refine (new_c s w).mono ?_
  rintro e w' ⟨rfl, h1, h2⟩
  exact ⟨_, Nat.le_refl _, rfl, Lib.hid h1, h2⟩
theorem ext_mid (a t c : ByteArray) (k : Nat) (hk : k = a.size) : (a ++ t ++ c).extract k (k + t.size) = t := by
  subst hk
  rw [ByteArray.append_assoc]
  have e := ByteArray.extract_append_size_add (a := a) (b := t ++ c) (i := 0) (j := t.size)
  rw [Nat.add_zero] at e
  rw [e]
  exact ByteArray.extract_append_eq_left rfl
end Go.Proofs.YtabhfopmblaohaaDoor.Rdr
