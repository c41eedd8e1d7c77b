/- The contracts of the functions that the law FailTexts reaches, each as a Lean function with the same answers: written by the kit's print for this claim; what it could not prove is left out here and proved in a text of its own. -/
import Derived.Test.YtmccdopagidfnaaDoorProg
import Derived.Below
import Derived.Deep.Draws
import Derived.Deep.AppendLies
import Derived.Maps.AppendAt
import Derived.OwnWalk
import Derived.Laws.BytesArg
import Derived.Laws.MakeOwn
import Derived.Laws.OwnMore
import Derived.Deep.OwnRows
import Derived.Tactics
import Derived.Lib.ConvBytes
import Derived.Laws.Slices
import Derived.WalkKit
import Derived.KernelRfl
import Derived.RowKit3
import Derived.Deep.LoopGhost
import Derived.Deep.QuietTactic
import Derived.BigQuiet
import Derived.WideLaws
import Derived.Deep.DeepCutAuto
import Derived.Deep.CutBlock
import Derived.Deep.RegionHeld3
import Derived.Laws.Rows
import Derived.Lib.AppendStr
import Derived.ArgAppend
import Derived.Laws.IdiomCopy
import Derived.OrdersHeld
import Derived.Laws.BitsLemmas
import Derived.RowKit
import Derived.Test.YtmccdopagidfnaaDoorWWords
import Derived.Test.YtmccdopagidfnaaDoorWLast
import Derived.Test.YtmccdopagidfnaaDoorWTab
import Derived.Test.YtmccdopagidfnaaDoorWFour
import Derived.Test.YtmccdopagidfnaaDoorWQPut
import Derived.Test.YtmccdopagidfnaaDoorWApart
import Derived.Test.YtmccdopagidfnaaDoorWArr
import Derived.Test.YtmccdopagidfnaaDoorWZeros
import Derived.Test.YtmccdopagidfnaaDoorWFoot
import Derived.Test.YtmccdopagidfnaaDoorWKept
import Derived.Test.YtmccdopagidfnaaDoorWShare
import Derived.Test.YtmccdopagidfnaaDoorWN
import Derived.Test.YtmccdopagidfnaaDoorWFootNe
import Derived.Test.YtmccdopagidfnaaDoorWAt
import Derived.Test.YtmccdopagidfnaaDoorWEqStruct
import Derived.Test.YtmccdopagidfnaaDoorWRepsOne
import Derived.Test.YtmccdopagidfnaaDoorWInv
import Derived.Test.YtmccdopagidfnaaDoorWInvWords
import Derived.Test.YtmccdopagidfnaaDoorWGuard
import Derived.Test.YtmccdopagidfnaaDoorWNEv
import Derived.Test.YtmccdopagidfnaaDoorWMore
namespace Go.Proofs.YtmccdopagidfnaaDoor.QFailTexts
open Go.RowKit Go.Proofs.YtmccdopagidfnaaDoorW.PrintWords Go.Proofs.YtmccdopagidfnaaDoorW.PrintLast Go.Proofs.YtmccdopagidfnaaDoorW.PrintMore
attribute [local go_sem] max2_int min2_int max_two min_two max_three min_three max_four min_four   -- for this text's walks alone
set_option linter.unusedVariables false
set_option linter.unusedSimpArgs false



def errW : Option Int → Value
  | none => .nilIface
  | some c => .iface 35 (.int .i64 c)
theorem errW_none : errW none = .nilIface := rfl
theorem errW_some (c : Int) : errW (some c) = .iface 35 (.int .i64 c) := rfl

theorem info5 : (Tryd.prog.info? 5).map (fun i => (i.zero, i.size, i.bytes)) = some (some (.int .u8 0), 1, 1) := by kernel_rfl
-- the values' own types


-- NOT PRINTED: function 11 (fail_At)

-- NOT PRINTED: function 18 (reflectlite_ValueOf)

-- NOT PRINTED: function 19 (reflectlite_Value_Type)

-- NOT PRINTED: function 20 (reflectlite_Value_IsNil)

-- NOT PRINTED: function 22 (reflectlite_TypeOf)

-- NOT PRINTED: function 24 (reflectlite_Value_Elem)

-- NOT PRINTED: function 25 (reflectlite_Value_Set)

-- NOT PRINTED: function 21 (errors_as)

-- NOT PRINTED: function 15 (errors_As)

-- NOT PRINTED: function 12 (fail_Code)

-- NOT PRINTED: function 7 (shalelaw01_awake)

-- NOT PRINTED: function 8 (shalelaw01_wrapped)

-- NOT PRINTED: function 9 (fail_Trail)

/-! ### shaleref01_Text: function 16 -/
def shaleref01_Text.f (a0 : Int) : Option (ByteArray) := if a0 < 0 then (some (⟨#[101, 114, 114, 111, 114]⟩ : ByteArray)) else (if a0 > 99 then (some (⟨#[101, 114, 114, 111, 114]⟩ : ByteArray)) else ((some (([(wrap64 (48 + (wrap64 (Int.tdiv a0 10)))) % 256, (wrap64 (48 + (Int.tmod a0 10))) % 256] : List Int) : List Int)).bind fun y104 => (if 6 + (strOfNums y104).size ≤ 9223372036854775807 then (some ((⟨#[101, 114, 114, 111, 114, 32]⟩ : ByteArray) ++ (strOfNums y104))) else (none))))
set_option maxHeartbeats 8000000 in
set_option maxRecDepth 100000 in
theorem shaleref01_Text.calls (a0 : Int) (r : ByteArray) (w : World) (h : shaleref01_Text.f a0 = some r) :
    Calls Tryd.prog 16 #[.int .i64 a0] w fun e w' => e = .returned (.string r) ∧ Below w.heap.size w w' := by
  have HB := Aside0.mk (Below.refl w.heap.size w)
  have H : (if a0 < 0 then (some (⟨#[101, 114, 114, 111, 114]⟩ : ByteArray)) else (if a0 > 99 then (some (⟨#[101, 114, 114, 111, 114]⟩ : ByteArray)) else ((some (([(wrap64 (48 + (wrap64 (Int.tdiv a0 10)))) % 256, (wrap64 (48 + (Int.tmod a0 10))) % 256] : List Int) : List Int)).bind fun y104 => (if 6 + (strOfNums y104).size ≤ 9223372036854775807 then (some ((⟨#[101, 114, 114, 111, 114, 32]⟩ : ByteArray) ++ (strOfNums y104))) else (none))))) = some r := h
  clear h
  by_cases c2 : a0 < 0
  · rw [if_pos c2] at H
    have c2b0 : decide (a0 < 0) = true := decide_eq_true c2
    clear c2
    obtain rfl := Option.some.inj H
    go_enter Tryd.func16, Tryd.ntmps16
    go_wp2
    go_ret
    exact ⟨by first | rfl | (simp [errW_none, errW_some] <;> rfl) | (simp [*, errW_none, errW_some] <;> rfl), by repeat (first | (with_reducible first | exact HB.out | apply below_alloc | apply pw_below_drewN | apply below_drew1) | exact HB.out)⟩
  · rw [if_neg c2] at H
    have c2b0 : decide (a0 < 0) = false := decide_eq_false c2
    clear c2
    by_cases c3 : a0 > 99
    · rw [if_pos c3] at H
      have c3b0 : decide (99 < a0) = true := decide_eq_true c3
      clear c3
      obtain rfl := Option.some.inj H
      go_enter Tryd.func16, Tryd.ntmps16
      go_wp2
      go_ret
      exact ⟨by first | rfl | (simp [errW_none, errW_some] <;> rfl) | (simp [*, errW_none, errW_some] <;> rfl), by repeat (first | (with_reducible first | exact HB.out | apply below_alloc | apply pw_below_drewN | apply below_drew1) | exact HB.out)⟩
    · rw [if_neg c3] at H
      have c3b0 : decide (99 < a0) = false := decide_eq_false c3
      clear c3
      obtain ⟨y104, hy104⟩ : ∃ y_ : List Int, y_ = (([(wrap64 (48 + (wrap64 (Int.tdiv a0 10)))) % 256, (wrap64 (48 + (Int.tmod a0 10))) % 256] : List Int)) := ⟨_, rfl⟩
      replace H : (if 6 + (strOfNums y104).size ≤ 9223372036854775807 then (some ((⟨#[101, 114, 114, 111, 114, 32]⟩ : ByteArray) ++ (strOfNums y104))) else (none)) = some r := by first | (rw [hy104]; with_reducible exact H) | (have H2_ := (Option.bind_some _ _).symm.trans H; rw [hy104]; with_reducible exact H2_) | (have H2_ := (Option.bind_some _ _).symm.trans H; with_reducible exact H2_) | with_reducible exact H | (rw [hy104]; exact H) | exact H
      have Ny104 := Aside0.mk hy104
      clear hy104
      by_cases c4 : 6 + (strOfNums y104).size ≤ 9223372036854775807
      · rw [if_pos c4] at H
        have c4b0 := eq_true c4
        have c4b1 : decide (6 + (strOfNums y104).size ≤ 9223372036854775807) = true := decide_eq_true c4
        try have c4b2 : (9223372036854775807 < 6 + (strOfNums y104).size) = False := eq_false (Nat.not_lt.2 c4)
        obtain rfl := Option.some.inj H
        go_enter Tryd.func16, Tryd.ntmps16
        go_wp2_with (first | ((with_reducible refine gate_dst (N := 17) rfl ?_); refine Kd.R_lit (Kd.int .u8) _ 5 ?hg (N := 17) ?hd (xs := ([(wrap64 (48 + (wrap64 (Int.tdiv a0 10)))) % 256, (wrap64 (48 + (Int.tmod a0 10))) % 256] : List Int)) (inner := [.int .u8 ((wrap64 (48 + (wrap64 (Int.tdiv a0 10)))) % 256), .int .u8 ((wrap64 (48 + (Int.tmod a0 10))) % 256)]) (ok := fun _ => True) (okp := fun _ => True) ?hr ?hp (fun _ hk => hk) trivial (Below.refl _ _) (Nat.le_refl _) (by simp) ?_; (case hd => rfl); (case hg => rfl); (case hr => first | (go_simp; done) | (go_simp; rfl)); (case hp => exact (Reps.one (show Kd.M (Kd.int .u8) _ _ _ ((wrap64 (48 + (wrap64 (Int.tdiv a0 10)))) % 256) [.int .u8 ((wrap64 (48 + (wrap64 (Int.tdiv a0 10)))) % 256)] from rfl) (Reps.one (show Kd.M (Kd.int .u8) _ _ _ ((wrap64 (48 + (Int.tmod a0 10))) % 256) [.int .u8 ((wrap64 (48 + (Int.tmod a0 10))) % 256)] from rfl) (Reps.none _ _)))); intro v105 w5 ho6 hb hg_ hnew_; clear hg_ hnew_; (first | rw [← Ny104.out] at ho6 | (simp only [Int.reduceToNat] at ho6; rw [← Ny104.out] at ho6)); have n0_ := Aside0.mk (Kd.R_lower ho6 (below_size (by repeat (first | (with_reducible first | exact HB.out | apply below_alloc | apply pw_below_drewN | apply below_drew1) | exact HB.out)))); have n1_ := Aside0.mk (below_step (by repeat (first | (with_reducible first | exact HB.out | apply below_alloc | apply pw_below_drewN | apply below_drew1) | exact HB.out)) hb); clear HB; have HO106 := n0_; have HB := n1_; clear n0_ n1_; clear hb ho6; have hcv7 := own_string (P := Tryd.prog) Tryd.underlying46 Tryd.underlying5 Tryd.underlying9 (Kd.own_of_R HO106.out)))
        go_ret
        exact ⟨by first | rfl | (simp [errW_none, errW_some] <;> rfl) | (simp [*, errW_none, errW_some] <;> rfl), by repeat (first | (with_reducible first | exact HB.out | apply below_alloc | apply pw_below_drewN | apply below_drew1) | exact HB.out)⟩
      · rw [if_neg c4] at H
        exact absurd H (by simp)

/-! ### shaleref01_Wrapped: function 10 -/
def shaleref01_Wrapped.l0 : Nat → List ByteArray → ByteArray → Int → Option (ByteArray)
  | 0, _, _, _ => none
  | k + 1, x1, x5, x6 => if (wrap64 (x6 + 1)) < (x1.length : Int) then (if 0 ≤ x6 then (if x6 < (x1.length : Int) then (if (rdOf ByteArray.empty x1 x6).size + 1 ≤ 9223372036854775807 then (if 0 ≤ (wrap64 (x6 + 1)) then (if ((rdOf ByteArray.empty x1 x6) ++ (⟨#[32]⟩ : ByteArray)).size + (rdOf ByteArray.empty x1 (wrap64 (x6 + 1))).size ≤ 9223372036854775807 then (if (((rdOf ByteArray.empty x1 x6) ++ (⟨#[32]⟩ : ByteArray)) ++ (rdOf ByteArray.empty x1 (wrap64 (x6 + 1)))).size + 2 ≤ 9223372036854775807 then (if ((((rdOf ByteArray.empty x1 x6) ++ (⟨#[32]⟩ : ByteArray)) ++ (rdOf ByteArray.empty x1 (wrap64 (x6 + 1)))) ++ (⟨#[58, 32]⟩ : ByteArray)).size + x5.size ≤ 9223372036854775807 then (shaleref01_Wrapped.l0 k x1 (((((rdOf ByteArray.empty x1 x6) ++ (⟨#[32]⟩ : ByteArray)) ++ (rdOf ByteArray.empty x1 (wrap64 (x6 + 1)))) ++ (⟨#[58, 32]⟩ : ByteArray)) ++ x5) (wrap64 (x6 + 2))) else (none)) else (none)) else (none)) else (none)) else (none)) else (none)) else (none)) else (some x5)
def shaleref01_Wrapped.f (k : Nat) (a0 : Int) (l1 : List ByteArray) : Option (ByteArray) := (shaleref01_Text.f a0).bind fun t107 => (shaleref01_Wrapped.l0 k l1 t107 0)
theorem shaleref01_Wrapped.mono_l : ∀ k, (∀ y0 y1 y2, LeO (shaleref01_Wrapped.l0 k y0 y1 y2) (shaleref01_Wrapped.l0 (k + 1) y0 y1 y2))
  | 0 => fun _ _ _ r h => by simp [shaleref01_Wrapped.l0] at h
  | k + 1 => by
    have ih0 := shaleref01_Wrapped.mono_l k
    · intro y0 y1 y2
      unfold shaleref01_Wrapped.l0
      repeat' first
      | (with_reducible exact ih0 _ _ _)
      | (with_reducible exact LeO.refl _)
      | (with_reducible exact LeO.none _)
      | (with_reducible refine LeO.ite ?_ ?_)
      | (with_reducible refine LeO.bind ?_ (fun _ => ?_))
      | exact ih0 _ _ _
      | exact LeO.none _
      | refine LeO.ite ?_ ?_
      | refine LeO.bind ?_ (fun _ => ?_)
theorem shaleref01_Wrapped.mono : ∀ a0 a1 k, LeO (shaleref01_Wrapped.f k a0 a1) (shaleref01_Wrapped.f (k + 1) a0 a1) := by
  intro a0 a1 k
  have ih0 := shaleref01_Wrapped.mono_l k
  unfold shaleref01_Wrapped.f
  repeat' first
      | (with_reducible exact ih0 _ _ _)
      | (with_reducible exact LeO.refl _)
      | (with_reducible exact LeO.none _)
      | (with_reducible refine LeO.ite ?_ ?_)
      | (with_reducible refine LeO.bind ?_ (fun _ => ?_))
      | exact ih0 _ _ _
      | exact LeO.none _
      | refine LeO.ite ?_ ?_
      | refine LeO.bind ?_ (fun _ => ?_)
-- NOT PRINTED: function 3 (shalelaw01_FailTexts)

end Go.Proofs.YtmccdopagidfnaaDoor.QFailTexts
