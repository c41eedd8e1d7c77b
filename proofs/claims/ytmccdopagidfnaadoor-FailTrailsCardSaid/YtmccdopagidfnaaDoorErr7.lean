/- The document's text of a wrapped number (shaleref01.Wrapped). -/
import Derived.Test.YtmccdopagidfnaaDoorErr6
set_option linter.unusedVariables false
namespace Go.Proofs.YtmccdopagidfnaaDoor.Err
open Go.RowKit Go.Extern.Stop Go.Stop Go.Extern Go.Proofs.YtmccdopagidfnaaDoorW.PrintWords Go.Proofs.YtmccdopagidfnaaDoorW.PrintLast Go.Proofs.YtmccdopagidfnaaDoorW.PrintMore
theorem text_c (n : Int) (s : ByteArray) (h : Hid (errText n = s)) (w : World) : Calls Tryd.prog 16 #[.int .i64 n] w fun e w' => e = .returned (.string s) ∧ Below w.heap.size w w' :=
  QFailTexts.shaleref01_Text.calls n s w (by rw [← h.out]; exact text_at n)
theorem getD_le {l : List ByteArray} (h : ∀ x ∈ l, x.size ≤ 140737488351232) (i : Nat) : (l.getD i ByteArray.empty).size ≤ 140737488351232 := by
  rw [List.getD_eq_getElem?_getD]
  rcases Nat.lt_or_ge i l.length with hi | hi
  · rw [List.getElem?_eq_getElem hi]; exact h _ (List.getElem_mem hi)
  · rw [List.getElem?_eq_none hi]; decide
theorem tot_le {l : List ByteArray} (h : ∀ x ∈ l, x.size ≤ 140737488351232) : ∀ j, tot (pairs l j) ≤ 8 + j * 281474976702467
  | 0 => by simp [pairs, tot]
  | j + 1 => by
    have := tot_le h j
    have h1 := getD_le h (2 * j)
    have h2 := getD_le h (2 * j + 1)
    simp only [pairs, tot]
    omega
set_option maxHeartbeats 4000000 in
set_option maxRecDepth 100000 in
theorem refw_c (n : Int) (A : Option Addr) (cap : Nat) (l : List ByteArray) (w : World) (hr : Kd.C Kd.string w A l.length l) (hc : l.length ≤ cap) (hl : l.length ≤ 40) (hz : Hid (∀ x ∈ l, x.size ≤ 140737488351232)) :
    Calls Tryd.prog 10 #[.int .i64 n, .slice A l.length cap] w fun e w' => e = .returned (.string (wrapText n (pairs l (l.length / 2)))) ∧ Below w.heap.size w w' := by
  have HR := Lib.hid hr
  clear hr
  go_enter Tryd.func10, Tryd.ntmps10
  go_wp2_with fail
  refine (text_c n _ rfl _).mono ?_
  rintro e w1 ⟨rfl, hd⟩
  have HB1 := Lib.hid hd
  clear hd
  go_wp2_with fail
  go_loopg [5, 6] (l.length / 2) (fun kq v0 v1 w' => ∃ (s : ByteArray) (j : Nat), v0 = .string s ∧ v1 = .int .i64 (2 * (j : Int)) ∧ kq + j = l.length / 2 ∧ Hid (wrapText n (pairs l j) = s) ∧ Hid (Below w.heap.size w w'))
  case atStart => exact ⟨_, 0, rfl, rfl, by omega, Lib.hid rfl, HB1⟩
  case round =>
    clear HB1
    obtain ⟨s, j, rfl, rfl, hk, hs, HB⟩ := hrel
    cases gk with
    | zero =>
      obtain rfl : j = l.length / 2 := by omega
      have c1 : decide (2 * ((l.length / 2 : Nat) : Int) + 1 < (l.length : Int)) = false := decide_eq_false (by omega)
      have c2 : IntKind.i64.wrap (2 * ((l.length / 2 : Nat) : Int) + 1) = 2 * ((l.length / 2 : Nat) : Int) + 1 := IntWalk.i64_in _ (by omega)
      go_wp2_with fail
      go_ret
      exact ⟨by rw [hs.out]; rfl, HB.out⟩
    | succ k1 =>
      have c1 : decide (2 * (j : Int) + 1 < (l.length : Int)) = true := decide_eq_true (by omega)
      have c2 : IntKind.i64.wrap (2 * (j : Int) + 1) = 2 * (j : Int) + 1 := IntWalk.i64_in _ (by omega)
      have c3 : IntKind.i64.wrap (2 * (j : Int) + 2) = 2 * (j : Int) + 2 := IntWalk.i64_in _ (by omega)
      obtain ⟨ad, rfl, x1⟩ := at_text HR.out (2 * j) (by omega)
      obtain ⟨ad', e', x2⟩ := at_text HR.out (2 * j + 1) (by omega)
      obtain rfl : ad = ad' := by injection e'
      clear e'
      replace x1 := (HB.out.cell (World.block_lt_of_cell? w _ x1)).trans x1
      replace x2 := (HB.out.cell (World.block_lt_of_cell? w _ x2)).trans x2
      have p1 : (0 ≤ 2 * (j : Int)) = True := eq_true (by omega)
      have p2 : (2 * (j : Int) < (l.length : Int)) = True := eq_true (by omega)
      have p3 : (0 ≤ 2 * (j : Int) + 1) = True := eq_true (by omega)
      have p4 : (2 * (j : Int) + 1 < (l.length : Int)) = True := eq_true (by omega)
      obtain ⟨a, ha⟩ : ∃ a, l.getD (2 * j) ByteArray.empty = a := ⟨_, rfl⟩
      obtain ⟨b, hb⟩ : ∃ b, l.getD (2 * j + 1) ByteArray.empty = b := ⟨_, rfl⟩
      have hsz : (lead a b ++ s).size ≤ 9223372036854775807 := by
        have h1 := wrap_le n (pairs l (j + 1))
        have h2 := tot_le hz.out (j + 1)
        simp only [pairs, wrapText, ha, hb, hs.out] at h1
        simp only [pairs, ha, hb] at h2
        omega
      rw [ByteArray.size_append, lead_size] at hsz
      rw [ha] at x1
      rw [hb] at x2
      have z1 : (9223372036854775807 < a.size + 1) = False := eq_false (by omega)
      have z2 : (9223372036854775807 < a.size + 1 + b.size) = False := eq_false (by omega)
      have z3 : (9223372036854775807 < a.size + 1 + b.size + 2) = False := eq_false (by omega)
      have z4 : (9223372036854775807 < a.size + 1 + b.size + 2 + s.size) = False := eq_false (by omega)
      obtain ⟨i1, hi1⟩ : ∃ i, i = 2 * j := ⟨_, rfl⟩
      obtain ⟨i2, hi2⟩ : ∃ i, i = 2 * j + 1 := ⟨_, rfl⟩
      have n1 : (2 * (j : Int)).toNat = i1 := by omega
      have n2 : (2 * (j : Int) + 1).toNat = i2 := by omega
      rw [← hi1] at x1
      rw [← hi2] at x2
      have HI := Lib.hid (And.intro (And.intro hi1 hi2) (And.intro ha hb))
      clear hi1 hi2 ha hb hsz
      go_wp2_with fail
      repeat (go_quiet (fail); try go_wp2)
      go_roundg k1
      case measure => exact Nat.lt_succ_self _
      case rel =>
        obtain ⟨⟨rfl, rfl⟩, ha, hb⟩ := HI.out
        exact ⟨_, j + 1, rfl, by congr 1, by omega, Lib.hid (by simp only [pairs, wrapText, ha, hb, hs.out]; rfl), Lib.hid (by repeat (first | exact HB.out | apply pw_below_drewN | apply below_drew1))⟩
end Go.Proofs.YtmccdopagidfnaaDoor.Err
