/- space.Mark where the places are free: they are marked, in a row of its own. -/
import Derived.Test.YtnpndfcghfoofaaDoorSpaceCallsD
set_option linter.unusedVariables false
namespace Go.Proofs.YtnpndfcghfoofaaDoor.SpK
open Go.RowKit Go.Proofs.YtnpndfcghfoofaaDoor.PSpaceFills Go.Proofs.YtnpndfcghfoofaaDoorW.PrintWords Go.Proofs.YtnpndfcghfoofaaDoorW.PrintLast Go.Proofs.YtnpndfcghfoofaaDoorW.PrintMore Go.Proofs.YtnpndfcghfoofaaDoor.SpM Go.Proofs.YtnpndfcghfoofaaDoor.SpC
theorem info4b : (Tryd.prog.info? 4).map (fun i => (i.zero, i.size, i.bytes)) = some (some (.bool false), 1, 1) := by kernel_rfl
/-- n places from a on marked -/
def marked (xs : List Bool) (a : Nat) : Nat → List Bool
  | 0 => xs
  | n + 1 => (marked xs a n).set (a + n) true
theorem marked_len (xs : List Bool) (a : Nat) : ∀ n, (marked xs a n).length = xs.length
  | 0 => rfl
  | n + 1 => by simp [marked, marked_len xs a n]
theorem marked_at (xs : List Bool) (a : Nat) : ∀ n j, ¬ (a ≤ j ∧ j < a + n) → (marked xs a n).getD j true = xs.getD j true
  | 0, _, _ => rfl
  | n + 1, j, h => by
    rw [← marked_at xs a n j (by omega)]
    simp only [marked, List.getD_eq_getElem?_getD]
    rw [List.getElem?_set_ne (by omega)]
set_option maxHeartbeats 4000000 in
set_option maxRecDepth 100000 in
theorem mark_c (xs : List Bool) (a n : Nat) (A : Option Addr) (c : Nat) (w : World) (hl : xs.length ≤ 200) (hc : xs.length ≤ c) (h : Hid (Kd.C Kd.bool w A xs.length xs)) (h1 : 1 ≤ n) (hn : a + n ≤ xs.length) (hf : Hid (∀ j, a ≤ j → j < a + n → xs.getD j true = false)) :
    Calls Tryd.prog 10 #[.slice A xs.length c, .int .i64 (a : Int), .int .i64 (n : Int), .bool true] w fun e w' => ∃ A' c', e = .returned (.tuple #[.slice A' xs.length c', .nilIface]) ∧ xs.length ≤ c' ∧ Hid (Kd.C Kd.bool w' A' xs.length (marked xs a n)) ∧ Below w.heap.size w w' := by
  have c1 : decide ((a : Int) < 0) = false := decide_eq_false (by omega)
  have c2 : decide ((n : Int) < 0) = false := decide_eq_false (by omega)
  have c3 : decide ((xs.length : Int) < (a : Int)) = false := decide_eq_false (by omega)
  have c4 : decide ((xs.length : Int) - (a : Int) < (n : Int)) = false := decide_eq_false (by omega)
  have c6 : decide (xs.length < a) = false := decide_eq_false (by omega)
  have c7 : (xs.length < a) = False := eq_false (by omega)
  have c5 : IntKind.i64.wrap ((xs.length : Int) - (a : Int)) = (xs.length : Int) - (a : Int) := IntWalk.i64_in _ (by omega)
  obtain ⟨ad, rfl⟩ : ∃ ad, A = some ad := by
    obtain ⟨_, _, h3⟩ := h.out
    obtain ⟨ad, e, _⟩ := h3 (by omega)
    exact ⟨ad, e⟩
  have HN := Lib.hid (Kd.R_nil Kd.bool 4 w w.heap.size (fun _ => True))
  go_enter Tryd.func10, Tryd.ntmps10
  go_wp2_with (at_builtin; refine Kd.R_append_rows Kd.bool (w0 := w) w.heap.size rfl (.const (.slice none 0 0)) (.tmp 39) 22 4 (.bool false) 1 rfl Tryd.underlying22 info4b rfl (by decide) (by omega) (.slice none 0 0) [] xs _ _ _ (fun _ => True) (fun _ => False) rfl rfl HN.out h.out (fun _ _ h => h) (fun _ h => h.elim) (fun _ _ => trivial) (Below.refl _ _) (Nat.le_refl _) ?aL ?_; (case aL => (simp; omega)); intro v2 w5 ho5 hb5 hg5 hn5; rw [List.nil_append] at ho5; obtain ⟨g, e2, rfl, hbg, _, _⟩ := Kd.R_form ho5 (by omega); have HO := Lib.hid ho5; have HB5 := Lib.hid hb5; have HG := Lib.hid hbg; clear ho5 hb5 hg5 hn5 hbg)
  go_loopg [42] n (fun kq v0 w' => ∃ (i : Nat), v0 = .int .i64 (i : Int) ∧ kq + i = n ∧ Hid (Kd.R Kd.bool 4 w' w.heap.size (fun _ => True) (.slice (some ⟨g, 0, none⟩) xs.length e2) (marked xs a i)) ∧ Hid (Below w.heap.size w w'))
  case atStart => exact ⟨0, rfl, by omega, HO, HB5⟩
  case round =>
    clear HO HB5
    obtain ⟨i, rfl, hk, HO, HB⟩ := hrel
    cases gk with
    | zero =>
      obtain rfl : i = n := by omega
      have c8 : decide ((i : Int) < (i : Int)) = false := decide_eq_false (by omega)
      go_wp2_with fail
      go_ret2
      obtain ⟨hl2, hc2, hC⟩ := Kd.R_reads' HO.out
      rw [marked_len] at hC
      exact ⟨_, _, rfl, hc2, Lib.hid hC, HB.out⟩
    | succ k1 =>
      have c8 : decide ((i : Int) < (n : Int)) = true := decide_eq_true (by omega)
      have q1 : IntKind.i64.wrap ((a : Int) + (i : Int)) = (a : Int) + (i : Int) := IntWalk.i64_in _ (by omega)
      have q5 : IntKind.i64.wrap ((i : Int) + 1) = (i : Int) + 1 := IntWalk.i64_in _ (by omega)
      obtain ⟨hce, hfr⟩ := Kd.R_celln false HO.out ((a : Int) + (i : Int)) (by omega) (by omega)
      have hp5 := Kd.R_putn HO.out ((a : Int) + (i : Int)) true
      obtain ⟨j, hj⟩ : ∃ j, j = a + i := ⟨_, rfl⟩
      have n1 : ((a : Int) + (i : Int)).toNat = j := by omega
      rw [n1] at hce hfr hp5
      have hv : rdOf false (marked xs a i) ((a : Int) + (i : Int)) = false := by
        rw [show (a : Int) + (i : Int) = ((a + i : Nat) : Int) by omega, rd_get _ _ (by rw [marked_len]; omega), marked_at _ _ _ _ (by omega)]
        exact hf.out _ (by omega) (by omega)
      rw [hv] at hce
      have HP := Lib.hid hp5
      have HJ := Lib.hid hj
      clear hp5 hj hv
      have p1 : (0 ≤ (a : Int) + (i : Int)) = True := eq_true (by omega)
      have p2 : ((a : Int) + (i : Int) < (xs.length : Int)) = True := eq_true (by omega)
      go_wp2_with fail
      go_roundg k1
      case measure => exact Nat.lt_succ_self _
      case rel => 
        refine ⟨i + 1, by simp, by omega, ?_, Lib.hid (HB.out.setCell HG.out _)⟩
        have := HP.out
        rw [HJ.out] at this ⊢
        exact Lib.hid this
end Go.Proofs.YtnpndfcghfoofaaDoor.SpK
