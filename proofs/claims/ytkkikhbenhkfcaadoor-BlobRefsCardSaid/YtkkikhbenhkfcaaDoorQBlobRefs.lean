/- The contracts of the functions that the law BlobRefs reaches, each as a Lean function with the same answers: written by the kit's print for this claim; what it could not prove is left out here and proved in a text of its own. -/
import Derived.Test.YtkkikhbenhkfcaaDoorProg
import Derived.Below
import Derived.Deep.Draws
import Derived.Deep.AppendLies
import Derived.Maps.AppendAt
import Derived.OwnWalk
import Derived.Laws.BytesArg
import Derived.Laws.MakeOwn
import Derived.Laws.OwnMore
import Derived.Deep.OwnRows
import Derived.Tactics
import Derived.Lib.ConvBytes
import Derived.Laws.Slices
import Derived.WalkKit
import Derived.KernelRfl
import Derived.RowKit3
import Derived.Deep.LoopGhost
import Derived.Deep.QuietTactic
import Derived.BigQuiet
import Derived.WideLaws
import Derived.Deep.DeepCutAuto
import Derived.Deep.CutBlock
import Derived.Deep.RegionHeld3
import Derived.Laws.Rows
import Derived.Lib.AppendStr
import Derived.ArgAppend
import Derived.Laws.IdiomCopy
import Derived.OrdersHeld
import Derived.Laws.BitsLemmas
import Derived.RowKit
import Derived.Test.YtkkikhbenhkfcaaDoorWWords
import Derived.Test.YtkkikhbenhkfcaaDoorWLast
import Derived.Test.YtkkikhbenhkfcaaDoorWTab
import Derived.Test.YtkkikhbenhkfcaaDoorWFour
import Derived.Test.YtkkikhbenhkfcaaDoorWQPut
import Derived.Test.YtkkikhbenhkfcaaDoorWApart
import Derived.Test.YtkkikhbenhkfcaaDoorWArr
import Derived.Test.YtkkikhbenhkfcaaDoorWZeros
import Derived.Test.YtkkikhbenhkfcaaDoorWFoot
import Derived.Test.YtkkikhbenhkfcaaDoorWKept
import Derived.Test.YtkkikhbenhkfcaaDoorWShare
import Derived.Test.YtkkikhbenhkfcaaDoorWN
import Derived.Test.YtkkikhbenhkfcaaDoorWFootNe
import Derived.Test.YtkkikhbenhkfcaaDoorWAt
import Derived.Test.YtkkikhbenhkfcaaDoorWEqStruct
import Derived.Test.YtkkikhbenhkfcaaDoorWRepsOne
import Derived.Test.YtkkikhbenhkfcaaDoorWInv
import Derived.Test.YtkkikhbenhkfcaaDoorWInvWords
import Derived.Test.YtkkikhbenhkfcaaDoorWGuard
import Derived.Test.YtkkikhbenhkfcaaDoorWNEv
import Derived.Test.YtkkikhbenhkfcaaDoorWMore
namespace Go.Proofs.YtkkikhbenhkfcaaDoor.QBlobRefs
open Go.RowKit Go.Proofs.YtkkikhbenhkfcaaDoorW.PrintWords Go.Proofs.YtkkikhbenhkfcaaDoorW.PrintLast Go.Proofs.YtkkikhbenhkfcaaDoorW.PrintMore
attribute [local go_sem] max2_int min2_int max_two min_two max_three min_three max_four min_four   -- for this text's walks alone
set_option linter.unusedVariables false
set_option linter.unusedSimpArgs false



def errW : Option Int → Value
  | none => .nilIface
  | some c => .iface 0 (.int .i64 c)
theorem errW_none : errW none = .nilIface := rfl
theorem errW_some (c : Int) : errW (some c) = .iface 0 (.int .i64 c) := rfl

theorem info5 : (Tryd.prog.info? 5).map (fun i => (i.zero, i.size, i.bytes)) = some (some (.int .u8 0), 1, 1) := by kernel_rfl
-- the values' own types


/-! ### blob_Pages: function 12 -/
def blob_Pages.f (a0 : Int) : Option (Int) := if a0 < 1 then (some 0) else (if a0 > 16384 then (some 0) else (some (wrap64 (Int.tdiv (wrap64 ((wrap64 (a0 + 64)) - 1)) 64))))
/-! ### code_Num: function 28 -/
mutual
def code_Num.j0 : Nat → Int → Bool → Option (ByteArray)
  | 0, _, _ => none
  | k + 1, x0, x9 => if x9 = true then (some (⟨#[]⟩ : ByteArray)) else (code_Num.l0 k x0 ([] : List Int))
def code_Num.l0 : Nat → Int → List Int → Option (ByteArray)
  | 0, _, _ => none
  | k + 1, x0, x3 => if x0 ≥ 128 then (if x3.length < 140737488355328 then (code_Num.l0 k (x0 / 128) (x3 ++ [(Go.bits .or .i64 (Go.bits .and .i64 x0 127) 128) % 256])) else (none)) else (if x3.length < 140737488355328 then (some (strOfNums (x3 ++ [(x0) % 256]))) else (none))
end
def code_Num.f (k : Nat) (a0 : Int) : Option (ByteArray) := if a0 < 0 then (code_Num.j0 k a0 true) else (code_Num.j0 k a0 (decide (a0 > 4611686018427387904)))
theorem code_Num.mono_l : ∀ k, (∀ y0 y1, LeO (code_Num.j0 k y0 y1) (code_Num.j0 (k + 1) y0 y1)) ∧ (∀ y0 y1, LeO (code_Num.l0 k y0 y1) (code_Num.l0 (k + 1) y0 y1))
  | 0 => ⟨fun _ _ r h => by simp [code_Num.j0] at h, fun _ _ r h => by simp [code_Num.l0] at h⟩
  | k + 1 => by
    obtain ⟨ih0, ih1⟩ := code_Num.mono_l k
    refine ⟨?_, ?_⟩
    · intro y0 y1
      unfold code_Num.j0
      repeat' first
      | (with_reducible exact ih0 _ _)
      | (with_reducible exact ih1 _ _)
      | (with_reducible exact LeO.refl _)
      | (with_reducible exact LeO.none _)
      | (with_reducible refine LeO.ite ?_ ?_)
      | (with_reducible refine LeO.bind ?_ (fun _ => ?_))
      | exact ih0 _ _
      | exact ih1 _ _
      | exact LeO.none _
      | refine LeO.ite ?_ ?_
      | refine LeO.bind ?_ (fun _ => ?_)
    · intro y0 y1
      unfold code_Num.l0
      repeat' first
      | (with_reducible exact ih0 _ _)
      | (with_reducible exact ih1 _ _)
      | (with_reducible exact LeO.refl _)
      | (with_reducible exact LeO.none _)
      | (with_reducible refine LeO.ite ?_ ?_)
      | (with_reducible refine LeO.bind ?_ (fun _ => ?_))
      | exact ih0 _ _
      | exact ih1 _ _
      | exact LeO.none _
      | refine LeO.ite ?_ ?_
      | refine LeO.bind ?_ (fun _ => ?_)
theorem code_Num.mono : ∀ a0 k, LeO (code_Num.f k a0) (code_Num.f (k + 1) a0) := by
  intro a0 k
  obtain ⟨ih0, ih1⟩ := code_Num.mono_l k
  unfold code_Num.f
  repeat' first
      | (with_reducible exact ih0 _ _)
      | (with_reducible exact ih1 _ _)
      | (with_reducible exact LeO.refl _)
      | (with_reducible exact LeO.none _)
      | (with_reducible refine LeO.ite ?_ ?_)
      | (with_reducible refine LeO.bind ?_ (fun _ => ?_))
      | exact ih0 _ _
      | exact ih1 _ _
      | exact LeO.none _
      | refine LeO.ite ?_ ?_
      | refine LeO.bind ?_ (fun _ => ?_)
/-! ### blob_Lay: function 20 -/
def blob_Lay.f (k : Nat) (a0_0 : Int) (a0_1 : Int) (a0_2 : Int) : Option (ByteArray) := (code_Num.f k a0_0).bind fun t108 => ((code_Num.f k a0_1).bind fun t109 => (if t108.size + t109.size ≤ 9223372036854775807 then ((code_Num.f k (wrap64 (a0_2))).bind fun t110 => (if (t108 ++ t109).size + t110.size ≤ 9223372036854775807 then (some ((t108 ++ t109) ++ t110)) else (none))) else (none)))
theorem blob_Lay.mono : ∀ a0 a1 a2 k, LeO (blob_Lay.f k a0 a1 a2) (blob_Lay.f (k + 1) a0 a1 a2) := by
  intro a0 a1 a2 k
  unfold blob_Lay.f
  repeat' first
      | (with_reducible exact code_Num.mono _ _)
      | (with_reducible exact LeO.refl _)
      | (with_reducible exact LeO.none _)
      | (with_reducible refine LeO.ite ?_ ?_)
      | (with_reducible refine LeO.bind ?_ (fun _ => ?_))
      | exact code_Num.mono _ _
      | exact LeO.none _
      | refine LeO.ite ?_ ?_
      | refine LeO.bind ?_ (fun _ => ?_)
def blob_Lay.T1 : Bool × List (List Nat × List Nat) := (true, [([], []), ([0], [0]), ([1], [1]), ([], []), ([3], [3]), ([4, 2], [4]), ([2, 5], [2, 5]), ([], []), ([7], [7]), ([8], [8]), ([9, 5], [9]), ([6, 10], [6, 10]), ([11, 10, 0, 1, 2, 3, 4, 5, 6, 7, 8, 9, 10, 11], [11])])
def blob_Lay.B1 : List Nat := [0, 1, 3, 0, 8, 31, 63, 0, 128, 384, 959, 2047, 4095]
theorem blob_Lay.tab1 : rtab .any (opsOf Tryd.f20 1) = blob_Lay.T1 := by kernel_rfl
theorem blob_Lay.bits1 : waitsOk blob_Lay.T1.2 blob_Lay.B1 = true := by kernel_rfl
/-! ### shalelaw07_awake: function 7 -/
def shalelaw07_awake.f (k : Nat)  : Option (Bool) := (blob_Pages.f 65).bind fun t111 => (if t111 = 2 then ((blob_Lay.f k 1 2 3).bind fun t112 => (some (t112.toList == ([1, 2, 3] : List UInt8)))) else (some false))
theorem shalelaw07_awake.mono : ∀ k, LeO (shalelaw07_awake.f k ) (shalelaw07_awake.f (k + 1) ) := by
  intro  k
  unfold shalelaw07_awake.f
  repeat' first
      | (with_reducible exact blob_Lay.mono _ _ _ _)
      | (with_reducible exact LeO.refl _)
      | (with_reducible exact LeO.none _)
      | (with_reducible refine LeO.ite ?_ ?_)
      | (with_reducible refine LeO.bind ?_ (fun _ => ?_))
      | exact blob_Lay.mono _ _ _ _
      | exact LeO.none _
      | refine LeO.ite ?_ ?_
      | refine LeO.bind ?_ (fun _ => ?_)
-- NOT PRINTED: function 23 (fail_At)

-- NOT PRINTED: function 8 (disk_New)

-- NOT PRINTED: function 30 (reflectlite_ValueOf)

-- NOT PRINTED: function 31 (reflectlite_Value_Type)

-- NOT PRINTED: function 32 (reflectlite_Value_IsNil)

-- NOT PRINTED: function 38 (reflectlite_TypeOf)

-- NOT PRINTED: function 39 (reflectlite_Value_Elem)

-- NOT PRINTED: function 40 (reflectlite_Value_Set)

-- NOT PRINTED: function 33 (errors_as)

-- NOT PRINTED: function 26 (errors_As)

-- NOT PRINTED: function 11 (fail_Code)

-- NOT PRINTED: function 27 (disk_Disk_may)

-- NOT PRINTED: function 14 (disk_Disk_Read)

/-! ### blob_Right: function 17 -/
def blob_Right.f (a0_0 : Int) (a0_1 : Int) (a0_2 : Int) (a1 : Int) : Option (Bool) := (blob_Pages.f a0_1).bind fun t115 => (if t115 > 0 then (if a0_0 ≥ 0 then (some (decide (a0_0 ≤ (wrap64 (a1 - t115))))) else (some false)) else (some false))
/-! ### adler_Sum: function 24 -/
def adler_Sum.l0 : Nat → ByteArray → Int → Int → Int → Int → Option (Int)
  | 0, _, _, _, _, _ => none
  | k + 1, x0, x3, x4, x7, x8 => if x8 < x7 then (if 0 ≤ x8 then (if x8 < (x0.size : Int) then (adler_Sum.l0 k x0 (((x3 + ((bt x0 x8) % 4294967296)) % 4294967296) % 65521) (((x4 + (((x3 + ((bt x0 x8) % 4294967296)) % 4294967296) % 65521)) % 4294967296) % 65521) x7 (wrap64 (x8 + 1))) else (none)) else (none)) else (some (Go.bits .or .u32 ((x4 * 65536) % 4294967296) x3))
def adler_Sum.f (k : Nat) (a0 : ByteArray) : Option (Int) := adler_Sum.l0 k a0 1 0 (a0.size : Int) 0
theorem adler_Sum.mono_l : ∀ k, (∀ y0 y1 y2 y3 y4, LeO (adler_Sum.l0 k y0 y1 y2 y3 y4) (adler_Sum.l0 (k + 1) y0 y1 y2 y3 y4))
  | 0 => fun _ _ _ _ _ r h => by simp [adler_Sum.l0] at h
  | k + 1 => by
    have ih0 := adler_Sum.mono_l k
    · intro y0 y1 y2 y3 y4
      unfold adler_Sum.l0
      repeat' first
      | (with_reducible exact ih0 _ _ _ _ _)
      | (with_reducible exact LeO.refl _)
      | (with_reducible exact LeO.none _)
      | (with_reducible refine LeO.ite ?_ ?_)
      | (with_reducible refine LeO.bind ?_ (fun _ => ?_))
      | exact ih0 _ _ _ _ _
      | exact LeO.none _
      | refine LeO.ite ?_ ?_
      | refine LeO.bind ?_ (fun _ => ?_)
theorem adler_Sum.mono : ∀ a0 k, LeO (adler_Sum.f k a0) (adler_Sum.f (k + 1) a0) := by
  intro a0 k
  have ih0 := adler_Sum.mono_l k
  unfold adler_Sum.f
  repeat' first
      | (with_reducible exact ih0 _ _ _ _ _)
      | (with_reducible exact LeO.refl _)
      | (with_reducible exact LeO.none _)
      | (with_reducible refine LeO.ite ?_ ?_)
      | (with_reducible refine LeO.bind ?_ (fun _ => ?_))
      | exact ih0 _ _ _ _ _
      | exact LeO.none _
      | refine LeO.ite ?_ ?_
      | refine LeO.bind ?_ (fun _ => ?_)
-- NOT PRINTED: function 25 (disk_Disk_Size)

-- NOT PRINTED: function 16 (blob_Get)

/-! ### shaleref04_Num: function 19 -/
def shaleref04_Num.l0 : Nat → Int → ByteArray → Option (ByteArray)
  | 0, _, _ => none
  | k + 1, x0, x3 => if x0 > 127 then ((some (([(wrap64 ((Int.tmod x0 128) + 128)) % 256] : List Int) : List Int)).bind fun y116 => (if x3.size + (strOfNums y116).size ≤ 9223372036854775807 then (shaleref04_Num.l0 k (wrap64 (Int.tdiv x0 128)) (x3 ++ (strOfNums y116))) else (none))) else ((some (([(x0) % 256] : List Int) : List Int)).bind fun y119 => (if x3.size + (strOfNums y119).size ≤ 9223372036854775807 then (some (x3 ++ (strOfNums y119))) else (none)))
def shaleref04_Num.f (k : Nat) (a0 : Int) : Option (ByteArray) := shaleref04_Num.l0 k a0 (⟨#[]⟩ : ByteArray)
theorem shaleref04_Num.mono_l : ∀ k, (∀ y0 y1, LeO (shaleref04_Num.l0 k y0 y1) (shaleref04_Num.l0 (k + 1) y0 y1))
  | 0 => fun _ _ r h => by simp [shaleref04_Num.l0] at h
  | k + 1 => by
    have ih0 := shaleref04_Num.mono_l k
    · intro y0 y1
      unfold shaleref04_Num.l0
      repeat' first
      | (with_reducible exact ih0 _ _)
      | (with_reducible exact LeO.refl _)
      | (with_reducible exact LeO.none _)
      | (with_reducible refine LeO.ite ?_ ?_)
      | (with_reducible refine LeO.bind ?_ (fun _ => ?_))
      | exact ih0 _ _
      | exact LeO.none _
      | refine LeO.ite ?_ ?_
      | refine LeO.bind ?_ (fun _ => ?_)
theorem shaleref04_Num.mono : ∀ a0 k, LeO (shaleref04_Num.f k a0) (shaleref04_Num.f (k + 1) a0) := by
  intro a0 k
  have ih0 := shaleref04_Num.mono_l k
  unfold shaleref04_Num.f
  repeat' first
      | (with_reducible exact ih0 _ _)
      | (with_reducible exact LeO.refl _)
      | (with_reducible exact LeO.none _)
      | (with_reducible refine LeO.ite ?_ ?_)
      | (with_reducible refine LeO.bind ?_ (fun _ => ?_))
      | exact ih0 _ _
      | exact LeO.none _
      | refine LeO.ite ?_ ?_
      | refine LeO.bind ?_ (fun _ => ?_)
set_option maxHeartbeats 8000000 in
set_option maxRecDepth 100000 in
theorem shaleref04_Num.calls (k : Nat) (a0 : Int) (r : ByteArray) (w : World) (h : shaleref04_Num.f k a0 = some r) :
    Calls Tryd.prog 19 #[.int .i64 a0] w fun e w' => e = .returned (.string r) ∧ Below w.heap.size w w' := by
  have HB := Aside0.mk (Below.refl w.heap.size w)
  have H : (shaleref04_Num.l0 k a0 (⟨#[]⟩ : ByteArray)) = some r := h
  clear h
  have H' := Aside0.mk H
  clear H
  go_enter Tryd.func19, Tryd.ntmps19
  go_wp2
  go_loopg [0, 3] k (fun kq v0 v3 w' => ∃ (x0_1 : Int) (x3_1 : ByteArray), v0 = .int .i64 x0_1 ∧ v3 = .string x3_1 ∧ Aside0 (shaleref04_Num.l0 kq x0_1 x3_1 = some r) ∧ Aside0 (kq ≤ k) ∧ Aside0 (Below w.heap.size w w'))
  case atStart => exact ⟨(a0), ((⟨#[]⟩ : ByteArray)), (by first | rfl | (simp; done) | (simp [*]; done)), (by first | rfl | (simp; done) | (simp [*]; done)), H', ⟨Nat.le_refl _⟩, ⟨by repeat (first | (with_reducible first | exact HB.out | apply below_alloc | apply pw_below_drewN | apply below_drew1) | exact HB.out)⟩⟩
  case round =>
    clear H'
    try clear c1
    obtain ⟨x0_1, x3_1, rfl, rfl, HA, HK1, HB⟩ := hrel
    cases gk with
    | zero => exact absurd HA.out (by simp [shaleref04_Num.l0])
    | succ k1 =>
      have H := HA.out
      clear HA
      simp only [shaleref04_Num.l0] at H
      by_cases c2 : x0_1 > 127
      · rw [if_pos c2] at H
        have c2b0 : decide (127 < x0_1) = true := decide_eq_true c2
        clear c2
        obtain ⟨y116, hy116⟩ : ∃ y_ : List Int, y_ = (([(wrap64 ((Int.tmod x0_1 128) + 128)) % 256] : List Int)) := ⟨_, rfl⟩
        replace H : (if x3_1.size + (strOfNums y116).size ≤ 9223372036854775807 then (shaleref04_Num.l0 k1 (wrap64 (Int.tdiv x0_1 128)) (x3_1 ++ (strOfNums y116))) else (none)) = some r := by first | (rw [hy116]; with_reducible exact H) | (have H2_ := (Option.bind_some _ _).symm.trans H; rw [hy116]; with_reducible exact H2_) | (have H2_ := (Option.bind_some _ _).symm.trans H; with_reducible exact H2_) | with_reducible exact H | (rw [hy116]; exact H) | exact H
        have Ny116 := Aside0.mk hy116
        clear hy116
        by_cases c3 : x3_1.size + (strOfNums y116).size ≤ 9223372036854775807
        · rw [if_pos c3] at H
          have c3b0 := eq_true c3
          have c3b1 : decide (x3_1.size + (strOfNums y116).size ≤ 9223372036854775807) = true := decide_eq_true c3
          try have c3b2 : (9223372036854775807 < x3_1.size + (strOfNums y116).size) = False := eq_false (Nat.not_lt.2 c3)
          have H' := Aside0.mk H
          clear H
          go_wp2_with (first | ((with_reducible refine gate_dst (N := 11) rfl ?_); refine Kd.R_lit (Kd.int .u8) _ 5 ?hg (N := 11) ?hd (xs := ([(wrap64 ((Int.tmod x0_1 128) + 128)) % 256] : List Int)) (inner := [.int .u8 ((wrap64 ((Int.tmod x0_1 128) + 128)) % 256)]) (ok := fun _ => True) (okp := fun _ => True) ?hr ?hp (fun _ hk => hk) trivial (Below.refl _ _) (Nat.le_refl _) (by simp) ?_; (case hd => rfl); (case hg => rfl); (case hr => first | (go_simp; done) | (go_simp; rfl)); (case hp => exact (Reps.one (show Kd.M (Kd.int .u8) _ _ _ ((wrap64 ((Int.tmod x0_1 128) + 128)) % 256) [.int .u8 ((wrap64 ((Int.tmod x0_1 128) + 128)) % 256)] from rfl) (Reps.none _ _))); intro v117 w4 ho5 hb hg_ hnew_; clear hg_ hnew_; (first | rw [← Ny116.out] at ho5 | (simp only [Int.reduceToNat] at ho5; rw [← Ny116.out] at ho5)); have n0_ := Aside0.mk (Kd.R_lower ho5 (below_size (by repeat (first | (with_reducible first | exact HB.out | apply below_alloc | apply pw_below_drewN | apply below_drew1) | exact HB.out)))); have n1_ := Aside0.mk (below_step (by repeat (first | (with_reducible first | exact HB.out | apply below_alloc | apply pw_below_drewN | apply below_drew1) | exact HB.out)) hb); clear HB; have HO118 := n0_; have HB := n1_; clear n0_ n1_; clear hb ho5; have hcv6 := own_string (P := Tryd.prog) Tryd.underlying63 Tryd.underlying5 Tryd.underlying9 (Kd.own_of_R HO118.out)))
          go_roundg k1
          case measure => have := HK1.out; omega
          case rel => exact ⟨(wrap64 (Int.tdiv x0_1 128)), (x3_1 ++ (strOfNums y116)), (by first | rfl | (simp; done) | (simp [*]; done)), (by first | rfl | (simp; done) | (simp [*]; done)), H', ⟨by have := HK1.out; omega⟩, ⟨by repeat (first | (with_reducible first | exact HB.out | apply below_alloc | apply pw_below_drewN | apply below_drew1) | exact HB.out)⟩⟩
        · rw [if_neg c3] at H
          exact absurd H (by simp)
      · rw [if_neg c2] at H
        have c2b0 : decide (127 < x0_1) = false := decide_eq_false c2
        clear c2
        obtain ⟨y119, hy119⟩ : ∃ y_ : List Int, y_ = (([(x0_1) % 256] : List Int)) := ⟨_, rfl⟩
        replace H : (if x3_1.size + (strOfNums y119).size ≤ 9223372036854775807 then (some (x3_1 ++ (strOfNums y119))) else (none)) = some r := by first | (rw [hy119]; with_reducible exact H) | (have H2_ := (Option.bind_some _ _).symm.trans H; rw [hy119]; with_reducible exact H2_) | (have H2_ := (Option.bind_some _ _).symm.trans H; with_reducible exact H2_) | with_reducible exact H | (rw [hy119]; exact H) | exact H
        have Ny119 := Aside0.mk hy119
        clear hy119
        by_cases c7 : x3_1.size + (strOfNums y119).size ≤ 9223372036854775807
        · rw [if_pos c7] at H
          have c7b0 := eq_true c7
          have c7b1 : decide (x3_1.size + (strOfNums y119).size ≤ 9223372036854775807) = true := decide_eq_true c7
          try have c7b2 : (9223372036854775807 < x3_1.size + (strOfNums y119).size) = False := eq_false (Nat.not_lt.2 c7)
          obtain rfl := Option.some.inj H
          go_wp2_with (first | ((with_reducible refine gate_dst (N := 19) rfl ?_); refine Kd.R_lit (Kd.int .u8) _ 5 ?hg (N := 19) ?hd (xs := ([(x0_1) % 256] : List Int)) (inner := [.int .u8 ((x0_1) % 256)]) (ok := fun _ => True) (okp := fun _ => True) ?hr ?hp (fun _ hk => hk) trivial (Below.refl _ _) (Nat.le_refl _) (by simp) ?_; (case hd => rfl); (case hg => rfl); (case hr => first | (go_simp; done) | (go_simp; rfl)); (case hp => exact (Reps.one (show Kd.M (Kd.int .u8) _ _ _ ((x0_1) % 256) [.int .u8 ((x0_1) % 256)] from rfl) (Reps.none _ _))); intro v120 w8 ho9 hb hg_ hnew_; clear hg_ hnew_; (first | rw [← Ny119.out] at ho9 | (simp only [Int.reduceToNat] at ho9; rw [← Ny119.out] at ho9)); have n0_ := Aside0.mk (Kd.R_lower ho9 (below_size (by repeat (first | (with_reducible first | exact HB.out | apply below_alloc | apply pw_below_drewN | apply below_drew1) | exact HB.out)))); have n1_ := Aside0.mk (below_step (by repeat (first | (with_reducible first | exact HB.out | apply below_alloc | apply pw_below_drewN | apply below_drew1) | exact HB.out)) hb); clear HB; have HO121 := n0_; have HB := n1_; clear n0_ n1_; clear hb ho9; have hcv10 := own_string (P := Tryd.prog) Tryd.underlying63 Tryd.underlying5 Tryd.underlying9 (Kd.own_of_R HO121.out)))
          go_ret
          exact ⟨by first | rfl | (simp [errW_none, errW_some] <;> rfl) | (simp [*, errW_none, errW_some] <;> rfl), by repeat (first | (with_reducible first | exact HB.out | apply below_alloc | apply pw_below_drewN | apply below_drew1) | exact HB.out)⟩
        · rw [if_neg c7] at H
          exact absurd H (by simp)

-- NOT PRINTED: function 34 (code_Reader_safe)

-- NOT PRINTED: function 29 (code_Reader_Num)

-- NOT PRINTED: function 21 (blob_Read)

/-- A state of type 73 at block g of W; what its slices lead to came in by w0. -/
def IsS73 (w0 W : World) (g : Nat) (f0 : ByteArray) (f1 : Int) : Prop := W.heap[g]? = some (.cells #[.string f0, .int .i64 f1] 73 (0, 0)) ∧ w0.heap.size ≤ g
theorem IsS73.grown {w0 W : World} {g : Nat} {f0 : ByteArray} {f1 : Int} {W1 : World} {row : Option Nat} (h : IsS73 w0 W g f0 f1) (hw : W.grownBy W1 row) (hne : some g ≠ row) : IsS73 w0 W1 g f0 f1 := by
  obtain ⟨hb, hg⟩ := h
  exact ⟨blk_grown hb hw hne, hg⟩
theorem IsS73.own_neN {w0 W : World} {g : Nat} {f0 : ByteArray} {f1 : Int} {α : Type} {d : Kd α} {e : Nat} {base : Nat} {ok : Nat → Prop} {v : Value} {xs : List α} (h : IsS73 w0 W g f0 f1) (ho : Kd.N d e W base ok v xs) (ht : e ≠ 73) : some g ≠ v.ownBlock := by
  obtain ⟨hb, hg⟩ := h
  exact Kd.N_ne ho hb ht
theorem IsS73.fresh {w0 W : World} {g : Nat} {f0 : ByteArray} {f1 : Int} (h : IsS73 w0 W g f0 f1) : ∀ k, W.heap.size ≤ k → k ≠ g := by
  obtain ⟨hb, hg⟩ := h
  exact Kd.freshB hb
theorem IsS73.kept {w0 W : World} {g : Nat} {f0 : ByteArray} {f1 : Int} {W1 : World} {S : Nat → Prop} (h : IsS73 w0 W g f0 f1) (hk : Kept W W1 S) (hne : ¬ S g) : IsS73 w0 W1 g f0 f1 := by
  obtain ⟨hb, hg⟩ := h
  exact ⟨blk_kept hb hk hne, hg⟩
theorem IsS73.below {w0 W : World} {g : Nat} {f0 : ByteArray} {f1 : Int} {W1 : World} (h : IsS73 w0 W g f0 f1) (hw : Below W.heap.size W W1) : IsS73 w0 W1 g f0 f1 := h.grown (grown_of_below hw none) (by simp)
theorem IsS73.alloc {w0 W : World} {g : Nat} {f0 : ByteArray} {f1 : Int} (h : IsS73 w0 W g f0 f1) (o : Obj) : IsS73 w0 (W.alloc o) g f0 f1 := h.below (below_alloc (Below.refl _ _) o)
theorem IsS73.drewN {w0 W : World} {g : Nat} {f0 : ByteArray} {f1 : Int} (h : IsS73 w0 W g f0 f1) (m : Nat) : IsS73 w0 (W.drewN m) g f0 f1 := h
theorem IsS73.drew {w0 W : World} {g : Nat} {f0 : ByteArray} {f1 : Int} (h : IsS73 w0 W g f0 f1) : IsS73 w0 W.drew g f0 f1 := h
theorem IsS73.at_ {w0 W : World} {g : Nat} {f0 : ByteArray} {f1 : Int} {w' : World} {m : Nat} (hq : W.drewN m = w') (h : IsS73 w0 W g f0 f1) : IsS73 w0 w' g f0 f1 := by subst hq; exact IsS73.drewN h m
theorem IsS73.apart {w0 W : World} {g : Nat} {f0 : ByteArray} {f1 : Int} {α : Type} {d : Kd α} {e : Nat} {base : Nat} {ok : Nat → Prop} {v : Value} {xs : List α} (h : IsS73 w0 W g f0 f1) (ho : d.R e W base ok v xs) (ht : ∀ q, q ∈ e :: d.E → q ≠ 73) : d.R e W base (fun k => ok k ∧ k ≠ g) v xs := by
  obtain ⟨hb, hg⟩ := h
  exact Kd.R_types ho hb ht
theorem IsS73.own_ne {w0 W : World} {g : Nat} {f0 : ByteArray} {f1 : Int} {α : Type} {d : Kd α} {e : Nat} {base : Nat} {ok : Nat → Prop} {v : Value} {xs : List α} (h : IsS73 w0 W g f0 f1) (ho : d.R e W base ok v xs) (ht : e ≠ 73) : some g ≠ v.ownBlock := by
  obtain ⟨hb, hg⟩ := h
  exact Kd.R_ne ho hb ht
theorem IsS73.apartQ {w0 W : World} {g : Nat} {f0 : ByteArray} {f1 : Int} {α : Type} {d : Kd α} {e : Nat} {base : Nat} {ok : Nat → Prop} {v : Value} {xs : List α} (h : IsS73 w0 W g f0 f1) (ho : d.Q e W base ok v xs) (ht : ∀ q, q ∈ e :: d.E → q ≠ 73) : d.Q e W base (fun k => ok k ∧ k ≠ g) v xs := by
  obtain ⟨hb, hg⟩ := h
  exact Kd.Q_types ho hb ht
theorem IsS73.own_neQ {w0 W : World} {g : Nat} {f0 : ByteArray} {f1 : Int} {α : Type} {d : Kd α} {e : Nat} {base : Nat} {ok : Nat → Prop} {v : Value} {xs : List α} (h : IsS73 w0 W g f0 f1) (ho : d.Q e W base ok v xs) (ht : e ≠ 73) : some g ≠ v.ownBlock := by
  obtain ⟨hb, hg⟩ := h
  exact Kd.Q_ne ho hb ht
theorem IsS73.apartS {w0 W : World} {g : Nat} {f0 : ByteArray} {f1 : Int} {α : Type} {d : Kd α} {e : Nat} {base : Nat} {ok : Nat → Prop} {v : Value} {xs : List α} (h : IsS73 w0 W g f0 f1) (ho : d.S e W base ok v xs) (ht : ∀ q, q ∈ e :: d.E → q ≠ 73) : d.S e W base (fun k => ok k ∧ k ≠ g) v xs := by
  obtain ⟨hb, hg⟩ := h
  exact Kd.S_types ho hb ht
theorem IsS73.own_neS {w0 W : World} {g : Nat} {f0 : ByteArray} {f1 : Int} {α : Type} {d : Kd α} {e : Nat} {base : Nat} {ok : Nat → Prop} {v : Value} {xs : List α} (h : IsS73 w0 W g f0 f1) (ho : d.S e W base ok v xs) (ht : e ≠ 73) : some g ≠ v.ownBlock := by
  obtain ⟨hb, hg⟩ := h
  exact Kd.S_ne ho hb ht
theorem IsS73.lt {w0 W : World} {g : Nat} {f0 : ByteArray} {f1 : Int} (h : IsS73 w0 W g f0 f1) : g < W.heap.size := by
  obtain ⟨hb, hg⟩ := h
  exact blk_lt hb
theorem IsS73.ge {w0 W : World} {g : Nat} {f0 : ByteArray} {f1 : Int} (h : IsS73 w0 W g f0 f1) : w0.heap.size ≤ g := by
  obtain ⟨hb, hg⟩ := h
  exact hg
theorem IsS73.ne_blk {w0 W : World} {g : Nat} {f0 : ByteArray} {f1 : Int} {a : Nat} {cs : Array Value} {t : TypeId} {fr : Nat × Nat} (h : IsS73 w0 W g f0 f1) (hb2 : W.heap[a]? = some (.cells cs t fr)) (ht : t ≠ 73) : g ≠ a := by
  obtain ⟨hb, hg⟩ := h
  rintro rfl
  rw [hb] at hb2
  injection hb2 with hb2
  injection hb2 with _ ht2
  exact ht ht2.symm
theorem IsS73.far {w0 W : World} {g : Nat} {f0 : ByteArray} {f1 : Int} {p : Addr} (h : IsS73 w0 W g f0 f1) (hne : g ≠ p.block) (u : Value) : IsS73 w0 (W.setCell p u) g f0 f1 := by
  obtain ⟨hb, hg⟩ := h
  exact ⟨blk_far hb hne u, hg⟩
theorem cellS73_0 {W : World} {g : Nat} {f0 : ByteArray} {f1 : Int} (h : W.heap[g]? = some (.cells #[.string f0, .int .i64 f1] 73 (0, 0))) : W.cell? ⟨g, 0, none⟩ = some (.string f0) := (blk_cell h 0).trans rfl
theorem IsS73.set_0 {w0 W : World} {g : Nat} {f0 : ByteArray} {f1 : Int} (h : IsS73 w0 W g f0 f1) (x : ByteArray) : IsS73 w0 (W.setCell ⟨g, 0, none⟩ (.string x)) g x f1 := by
  obtain ⟨hb, hg⟩ := h
  exact ⟨by simpa using blk_set hb 0 (.string x), hg⟩
theorem cellS73_1 {W : World} {g : Nat} {f0 : ByteArray} {f1 : Int} (h : W.heap[g]? = some (.cells #[.string f0, .int .i64 f1] 73 (0, 0))) : W.cell? ⟨g, 1, none⟩ = some (.int .i64 f1) := (blk_cell h 1).trans rfl
theorem IsS73.set_1 {w0 W : World} {g : Nat} {f0 : ByteArray} {f1 : Int} (h : IsS73 w0 W g f0 f1) (x : Int) : IsS73 w0 (W.setCell ⟨g, 1, none⟩ (.int .i64 x)) g f0 x := by
  obtain ⟨hb, hg⟩ := h
  exact ⟨by simpa using blk_set hb 1 (.int .i64 x), hg⟩
theorem IsS73.new (w0 W : World) (f0 : ByteArray) (f1 : Int) (hB : Below w0.heap.size w0 W) : IsS73 w0 (W.alloc (.cells #[.string f0, .int .i64 f1] 73)) W.heap.size f0 f1 := ⟨by simpa using heap_alloc_new W _, hB.size⟩

/-! ### code_New: function 22 -/
def code_New.f (a0 : ByteArray) : Option (ByteArray × Int) := some (a0, 0)
-- NOT PRINTED: function 6 (shalelaw07_BlobRefs)

end Go.Proofs.YtkkikhbenhkfcaaDoor.QBlobRefs
