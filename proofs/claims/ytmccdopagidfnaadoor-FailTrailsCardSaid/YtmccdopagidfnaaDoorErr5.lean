/- The laws' 'wrapped': a number, wrapped by a list of texts, two and two. -/
import Derived.Test.YtmccdopagidfnaaDoorErr4
import Derived.Deep.RegionHeld3
set_option linter.unusedVariables false
namespace Go.Proofs.YtmccdopagidfnaaDoor.Err
open Go.RowKit Go.Extern.Stop Go.Stop Go.Extern Go.Proofs.YtmccdopagidfnaaDoorW.PrintWords Go.Proofs.YtmccdopagidfnaaDoorW.PrintLast Go.Proofs.YtmccdopagidfnaaDoorW.PrintMore
/-- the wrappings of the first k pairs, the outermost first -/
def pairs (l : List ByteArray) : Nat → List (ByteArray × ByteArray)
  | 0 => []
  | k + 1 => (l.getD (2 * k) ByteArray.empty, l.getD (2 * k + 1) ByteArray.empty) :: pairs l k
theorem at_text {w : World} {A : Option Addr} {l : List ByteArray} (h : Kd.C Kd.string w A l.length l) (i : Nat) (hi : i < l.length) : ∃ ad, A = some ad ∧ w.cell? (ad.add i) = some (.string (l.getD i ByteArray.empty)) := by
  obtain ⟨ad, e, hx⟩ := Kd.at_string h (i : Int) (by omega) (by omega)
  refine ⟨ad, e, ?_⟩
  have e2 : rdOf ByteArray.empty l (i : Int) = l.getD i ByteArray.empty := by simp [rdOf]
  rw [e2] at hx
  simpa using hx
theorem two_on {w w1 w2 : World} {p q : Addr} {x y : Value} (h : (w1.cell? p = some x ∧ w1.cell? q = some y) ∧ Below w.heap.size w w1) (k : Below w1.heap.size w1 w2) : (w2.cell? p = some x ∧ w2.cell? q = some y) ∧ Below w.heap.size w w2 :=
  ⟨⟨(k.cell (World.block_lt_of_cell? _ _ h.1.1)).trans h.1.1, (k.cell (World.block_lt_of_cell? _ _ h.1.2)).trans h.1.2⟩, h.2.trans (k.mono h.2.size)⟩
set_option maxHeartbeats 4000000 in
set_option maxRecDepth 100000 in
theorem wrapped_c (n : Int) (A : Option Addr) (cap : Nat) (l : List ByteArray) (w : World) (hr : Kd.C Kd.string w A l.length l) (hc : l.length ≤ cap) (hl : l.length ≤ 40) :
    Calls Tryd.prog 8 #[.int .i64 n, .slice A l.length cap] w fun e w' => ∃ T x, e = .returned (.iface T x) ∧ Hid (Chain w' (.iface T x) n (pairs l (l.length / 2))) ∧ Below w.heap.size w w' := by
  have HR := Lib.hid hr
  clear hr
  go_enter Tryd.func8, Tryd.ntmps8
  go_wp2_with fail
  go_loopg [5, 6] (l.length / 2) (fun kq v0 v1 w' => ∃ (T : TypeId) (x : Value) (j : Nat), v0 = .iface T x ∧ v1 = .int .i64 (2 * (j : Int)) ∧ kq + j = l.length / 2 ∧ Hid (Chain w' (.iface T x) n (pairs l j)) ∧ Hid (Below w.heap.size w w'))
  case atStart => exact ⟨_, _, 0, rfl, rfl, by omega, Lib.hid (.base n), Lib.hid (Below.refl _ _)⟩
  case round =>
    obtain ⟨T, x, j, rfl, rfl, hk, hch, HB⟩ := hrel
    cases gk with
    | zero =>
      obtain rfl : j = l.length / 2 := by omega
      have c1 : decide (2 * ((l.length / 2 : Nat) : Int) + 1 < (l.length : Int)) = false := decide_eq_false (by omega)
      have c2 : IntKind.i64.wrap (2 * ((l.length / 2 : Nat) : Int) + 1) = 2 * ((l.length / 2 : Nat) : Int) + 1 := IntWalk.i64_in _ (by omega)
      go_wp2_with fail
      go_ret
      exact ⟨_, _, rfl, hch, HB.out⟩
    | succ k1 =>
      have c1 : decide (2 * (j : Int) + 1 < (l.length : Int)) = true := decide_eq_true (by omega)
      have c2 : IntKind.i64.wrap (2 * (j : Int) + 1) = 2 * (j : Int) + 1 := IntWalk.i64_in _ (by omega)
      have c3 : IntKind.i64.wrap (2 * (j : Int) + 2) = 2 * (j : Int) + 2 := IntWalk.i64_in _ (by omega)
      obtain ⟨ad, rfl, x1⟩ := at_text HR.out (2 * j) (by omega)
      obtain ⟨ad', e', x2⟩ := at_text HR.out (2 * j + 1) (by omega)
      obtain rfl : ad = ad' := by injection e'
      clear e'
      replace x1 := (HB.out.cell (World.block_lt_of_cell? w _ x1)).trans x1
      replace x2 := (HB.out.cell (World.block_lt_of_cell? w _ x2)).trans x2
      have p1 : (0 ≤ 2 * (j : Int)) = True := eq_true (by omega)
      have p2 : (2 * (j : Int) < (l.length : Int)) = True := eq_true (by omega)
      have p3 : (0 ≤ 2 * (j : Int) + 1) = True := eq_true (by omega)
      have p4 : (2 * (j : Int) + 1 < (l.length : Int)) = True := eq_true (by omega)
      obtain ⟨i1, hi1⟩ : ∃ i, i = 2 * j := ⟨_, rfl⟩
      obtain ⟨i2, hi2⟩ : ∃ i, i = 2 * j + 1 := ⟨_, rfl⟩
      have n1 : (2 * (j : Int)).toNat = i1 := by omega
      have n2 : (2 * (j : Int) + 1).toNat = i2 := by omega
      rw [← hi1] at x1
      rw [← hi2] at x2
      have HI := Lib.hid (And.intro hi1 hi2)
      clear hi1 hi2
      go_wp2_with fail
      have HS0 := Lib.hid (two_on (And.intro (And.intro x1 x2) (Below.refl wr.heap.size wr)) (w2 := wr.drew) (Below.refl _ _).drew)
      go_region_held3 (fun w' => (w'.cell? (ad.add i1) = some (.string (l.getD i1 ByteArray.empty)) ∧ w'.cell? (ad.add i2) = some (.string (l.getD i2 ByteArray.empty))) ∧ Below wr.heap.size wr w')
        (first | exact HS0.out | assumption | exact two_on (by assumption) hkk)
        (first | (go_at_call 11; refine (at_c _ _ _ n (pairs l j) _ (Lib.hid (hch.out.on (And.right (by assumption))))).mono ?_; rintro e w2 ⟨T2, x2', rfl, hc2, hkk⟩))
      rename_i hS
      have HB2 := below_on HB (Nat.le_refl _) hS.2
      clear hS
      go_wp2_with fail
      go_roundg k1
      case measure => exact Nat.lt_succ_self _
      case rel =>
        obtain ⟨rfl, rfl⟩ := HI.out
        exact ⟨T2, x2', j + 1, rfl, by congr 1, by omega, hc2, HB2⟩
end Go.Proofs.YtmccdopagidfnaaDoor.Err
