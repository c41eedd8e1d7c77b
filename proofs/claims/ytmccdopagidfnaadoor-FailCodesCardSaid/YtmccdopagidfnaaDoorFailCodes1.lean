/- FailCodes, the walk. -/
import Derived.Test.YtmccdopagidfnaaDoorErr5
set_option linter.unusedVariables false
namespace Go.Proofs.YtmccdopagidfnaaDoor.RowFailCodes
open Go.RowKit Go.Extern.Stop Go.Stop Go.Extern Go.Proofs.YtmccdopagidfnaaDoor.Err Go.Proofs.YtmccdopagidfnaaDoorW.PrintWords Go.Proofs.YtmccdopagidfnaaDoorW.PrintLast Go.Proofs.YtmccdopagidfnaaDoorW.PrintMore
set_option maxHeartbeats 4000000 in
set_option maxRecDepth 100000 in
theorem few (n o : Int) (A : Option Addr) (cap : Nat) (l : List ByteArray) (w : World) (hr : Kd.C Kd.string w A l.length l) (hc : l.length ≤ cap) (hl : l.length ≤ 40) (q : Bool) (hq : (n == o) = q) (hg : Hid (Laid w)) :
    Calls Tryd.prog 5 #[.int .i64 n, .slice A l.length cap, .int .i64 o] w fun e w' => e = .returned (.bool true) ∧ Below w.heap.size w w' := by
  have HR := Lib.hid hr
  clear hr
  have c1 : decide (40 < (l.length : Int)) = false := decide_eq_false (by omega)
  go_enter Tryd.func5, Tryd.ntmps5
  go_wp2_with fail
  refine (awake_c _ hg).mono ?_
  rintro e w1 ⟨rfl, hd⟩
  have HG1 := Lib.hid (hg.out.on hd)
  have HR1 := Lib.hid (Kd.C_below HR.out hd)
  have HB1 := Lib.hid hd
  clear hd
  go_wp2_with fail
  refine (wrapped_c n A cap l _ HR1.out hc hl).mono ?_
  rintro e w2 ⟨T, x, rfl, hch, hd⟩
  have HG2 := Lib.hid (HG1.out.on hd)
  have HB2 := below_on HB1 (Nat.le_refl _) hd
  clear hd
  go_wp2_with fail
  refine (code_c _ n _ (Lib.hid (.inr ⟨_, hch.out⟩)) HG2).mono ?_
  rintro e w3 ⟨rfl, hd⟩
  have HG3 := Lib.hid (HG2.out.on hd)
  have hch3 := Lib.hid (hch.out.on hd)
  have HB3 := below_on HB2 (Nat.le_refl _) hd
  clear hd
  go_wp2_with fail
  refine (fis_num _ n n _ _ hch3).mono ?_
  rintro e w4 ⟨rfl, hd⟩
  have HG4 := Lib.hid (HG3.out.on hd)
  have hch4 := Lib.hid (hch3.out.on hd)
  have HB4 := below_on HB3 (Nat.le_refl _) hd
  clear hd
  go_wp2_with fail
  refine (fis_num _ n o _ _ hch4).mono ?_
  rintro e w5 ⟨rfl, hd⟩
  have HG5 := Lib.hid (HG4.out.on hd)
  have HB5 := below_on HB4 (Nat.le_refl _) hd
  clear hd
  go_wp2_with fail
  refine (code_nil _).mono ?_
  rintro e w6 ⟨rfl, hd⟩
  have HB6 := below_on HB5 (Nat.le_refl _) hd
  clear hd
  go_wp2_with fail
  refine (at_nil _ _ _).mono ?_
  rintro e w7 ⟨rfl, rfl⟩
  go_wp2_with fail
  refine (fis_nil n _).mono ?_
  rintro e w8 ⟨rfl, hd⟩
  have HB8 := below_on HB6 (Nat.le_refl _) hd
  clear hd
  go_wp2_with fail
  go_ret
  exact ⟨rfl, HB8.out⟩
set_option maxHeartbeats 4000000 in
theorem many (n o : Int) (A : Option Addr) (len cap : Nat) (w : World) (hl : 40 < len) (hg : Hid (Laid w)) :
    Calls Tryd.prog 5 #[.int .i64 n, .slice A len cap, .int .i64 o] w fun e w' => e = .returned (.bool true) ∧ Below w.heap.size w w' := by
  have c1 : decide (40 < (len : Int)) = true := decide_eq_true (by omega)
  go_enter Tryd.func5, Tryd.ntmps5
  go_wp2_with fail
  refine (awake_c _ hg).mono ?_
  rintro e w1 ⟨rfl, hd⟩
  have HG1 := Lib.hid (hg.out.on hd)
  have HB1 := Lib.hid hd
  clear hd
  go_wp2_with fail
  refine (awake_c _ HG1).mono ?_
  rintro e w2 ⟨rfl, hd⟩
  have HB2 := below_on HB1 (Nat.le_refl _) hd
  clear hd
  go_wp2_with fail
  go_ret
  exact ⟨rfl, HB2.out⟩
theorem walk (n : Int) (A : Option Addr) (len cap : Nat) (l : List ByteArray) (o : Int) (w : World) (hn : (Lit.int .i64 n).wf = true) (hl : l.length = len) (hc : len ≤ cap) (hr : Kd.C Kd.string w A len l) (ho : (Lit.int .i64 o).wf = true) (hg : Hid (Laid w)) :
    Calls Tryd.prog 5 #[.int .i64 n, .slice A len cap, .int .i64 o] w fun e w' => e = .returned (.bool true) ∧ Below w.heap.size w w' := by
  subst hl
  by_cases h : l.length ≤ 40
  · exact few n o A cap l w hr hc h _ rfl hg
  · exact many n o A l.length cap w (by omega) hg
end Go.Proofs.YtmccdopagidfnaaDoor.RowFailCodes
