/- FailUnlike, the walk. -/
import Derived.Test.YtmccdopagidfnaaDoorErr4
set_option linter.unusedVariables false
namespace Go.Proofs.YtmccdopagidfnaaDoor.RowFailUnlike
open Go.RowKit Go.Extern.Stop Go.Stop Go.Extern Go.Proofs.YtmccdopagidfnaaDoor.Err
set_option maxHeartbeats 4000000 in
set_option maxRecDepth 100000 in
theorem walk0 (a b x y : Int) (s t : ByteArray) (q : Bool) (w : World) (hx : a % 100 = x) (hy : b % 100 = y) (hs : Hid (errText x = s)) (ht : Hid (errText y = t)) (h1 : (s.toList == t.toList) = q) (h2 : (x == y) = q) (ha0 : 0 ≤ a) (ha1 : a ≤ 255) (hb0 : 0 ≤ b) (hb1 : b ≤ 255) (hg : Hid (Laid w)) :
    Calls Tryd.prog 6 #[.int .u8 a, .int .u8 b] w fun e w' => e = .returned (.bool true) ∧ Below w.heap.size w w' := by
  go_enter Tryd.func6, Tryd.ntmps6
  go_wp2_with fail
  refine (awake_c _ hg).mono ?_
  rintro e w1 ⟨rfl, hd⟩
  have HG1 := Lib.hid (hg.out.on hd)
  have HB1 := Lib.hid hd
  clear hd
  go_wp2_with fail
  refine (err_c x s hs _).mono ?_
  rintro e w2 ⟨rfl, hd⟩
  have HG2 := Lib.hid (HG1.out.on hd)
  have HB2 := below_on HB1 (Nat.le_refl _) hd
  clear hd
  go_wp2_with fail
  refine (err_c y t ht _).mono ?_
  rintro e w3 ⟨rfl, hd⟩
  have HG3 := Lib.hid (HG2.out.on hd)
  have HB3 := below_on HB2 (Nat.le_refl _) hd
  clear hd
  go_wp2_with fail
  refine (fis_num _ x y [] _ (Lib.hid (.base x))).mono ?_
  rintro e w4 ⟨rfl, hd⟩
  have HG4 := Lib.hid (HG3.out.on hd)
  have HB4 := below_on HB3 (Nat.le_refl _) hd
  clear hd
  go_wp2_with fail
  refine (code_c _ x _ (Lib.hid (.inr ⟨_, .base x⟩)) HG4).mono ?_
  rintro e w5 ⟨rfl, hd⟩
  have HB5 := below_on HB4 (Nat.le_refl _) hd
  clear hd
  go_wp2_with fail
  go_ret
  exact ⟨rfl, HB5.out⟩
theorem walk (a b : Int) (w : World) (ha : (Lit.int .u8 a).wf = true) (hb : (Lit.int .u8 b).wf = true) (hg : Hid (Laid w)) :
    Calls Tryd.prog 6 #[.int .u8 a, .int .u8 b] w fun e w' => e = .returned (.bool true) ∧ Below w.heap.size w w' := by
  have ha' : 0 ≤ a ∧ a ≤ 255 := by
    simp [Lit.wf, IntKind.min, IntKind.max, IntKind.bits, IntKind.signed] at ha
    omega
  have hb' : 0 ≤ b ∧ b ≤ 255 := by
    simp [Lit.wf, IntKind.min, IntKind.max, IntKind.bits, IntKind.signed] at hb
    omega
  exact walk0 a b _ _ _ _ _ w rfl rfl rfl rfl (err_eq _ _ (by omega) (by omega) (by omega) (by omega)) rfl ha'.1 ha'.2 hb'.1 hb'.2 hg
end Go.Proofs.YtmccdopagidfnaaDoor.RowFailUnlike
