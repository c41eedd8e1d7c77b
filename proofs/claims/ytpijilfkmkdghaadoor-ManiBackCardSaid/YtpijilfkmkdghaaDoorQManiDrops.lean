/- The contracts of the functions that the law ManiDrops reaches, each as a Lean function with the same answers: written by the kit's print for this claim; what it could not prove is left out here and proved in a text of its own. -/
import Derived.Test.YtpijilfkmkdghaaDoorProg
import Derived.Below
import Derived.Deep.Draws
import Derived.Deep.AppendLies
import Derived.Maps.AppendAt
import Derived.OwnWalk
import Derived.Laws.BytesArg
import Derived.Laws.MakeOwn
import Derived.Laws.OwnMore
import Derived.Deep.OwnRows
import Derived.Tactics
import Derived.Lib.ConvBytes
import Derived.Laws.Slices
import Derived.WalkKit
import Derived.KernelRfl
import Derived.RowKit3
import Derived.Deep.LoopGhost
import Derived.Deep.QuietTactic
import Derived.BigQuiet
import Derived.WideLaws
import Derived.Deep.DeepCutAuto
import Derived.Deep.CutBlock
import Derived.Deep.RegionHeld3
import Derived.Laws.Rows
import Derived.Lib.AppendStr
import Derived.ArgAppend
import Derived.Laws.IdiomCopy
import Derived.OrdersHeld
import Derived.Laws.BitsLemmas
import Derived.RowKit
import Derived.Test.YtpijilfkmkdghaaDoorWWords
import Derived.Test.YtpijilfkmkdghaaDoorWLast
import Derived.Test.YtpijilfkmkdghaaDoorWTab
import Derived.Test.YtpijilfkmkdghaaDoorWFour
import Derived.Test.YtpijilfkmkdghaaDoorWQPut
import Derived.Test.YtpijilfkmkdghaaDoorWApart
import Derived.Test.YtpijilfkmkdghaaDoorWArr
import Derived.Test.YtpijilfkmkdghaaDoorWZeros
import Derived.Test.YtpijilfkmkdghaaDoorWFoot
import Derived.Test.YtpijilfkmkdghaaDoorWKept
import Derived.Test.YtpijilfkmkdghaaDoorWShare
import Derived.Test.YtpijilfkmkdghaaDoorWN
import Derived.Test.YtpijilfkmkdghaaDoorWFootNe
import Derived.Test.YtpijilfkmkdghaaDoorWAt
import Derived.Test.YtpijilfkmkdghaaDoorWEqStruct
import Derived.Test.YtpijilfkmkdghaaDoorWRepsOne
import Derived.Test.YtpijilfkmkdghaaDoorWInv
import Derived.Test.YtpijilfkmkdghaaDoorWInvWords
import Derived.Test.YtpijilfkmkdghaaDoorWGuard
import Derived.Test.YtpijilfkmkdghaaDoorWNEv
import Derived.Test.YtpijilfkmkdghaaDoorWMore
namespace Go.Proofs.YtpijilfkmkdghaaDoor.QManiDrops
open Go.RowKit Go.Proofs.YtpijilfkmkdghaaDoorW.PrintWords Go.Proofs.YtpijilfkmkdghaaDoorW.PrintLast Go.Proofs.YtpijilfkmkdghaaDoorW.PrintMore
attribute [local go_sem] max2_int min2_int max_two min_two max_three min_three max_four min_four   -- for this text's walks alone
set_option linter.unusedVariables false
set_option linter.unusedSimpArgs false



def errW : Option Int → Value
  | none => .nilIface
  | some c => .iface 0 (.int .i64 c)
theorem errW_none : errW none = .nilIface := rfl
theorem errW_some (c : Int) : errW (some c) = .iface 0 (.int .i64 c) := rfl

theorem info3 : (Tryd.prog.info? 3).map (fun i => (i.zero, i.size, i.bytes)) = some (some (.int .i64 0), 1, 8) := by kernel_rfl
theorem info4 : (Tryd.prog.info? 4).map (fun i => (i.zero, i.size, i.bytes)) = some (some (.bool false), 1, 1) := by kernel_rfl
theorem info5 : (Tryd.prog.info? 5).map (fun i => (i.zero, i.size, i.bytes)) = some (some (.int .u8 0), 1, 1) := by kernel_rfl
theorem info23 : (Tryd.prog.info? 23).map (fun i => (i.zero, i.size, i.bytes)) = some (some (.slice none 0 0), 1, 24) := by kernel_rfl
theorem info56 : (Tryd.prog.info? 56).map (fun i => (i.zero, i.size, i.bytes)) = some (some (.agg #[(.int .i64 0), (.int .i64 0), (.int .u32 0)]), 3, 24) := by kernel_rfl
-- the values' own types
def rd_L1 (xs : List (List Int)) (i : Int) : (List Int) := xs.getD i.toNat ([] : List Int)
theorem at_L1 {w : World} {A : Option Addr} {n : Nat} {xs : List (List Int)} (h : Kd.C (Kd.slice 3 (Kd.int .i64)) w A n xs) (i : Int) (h0 : 0 ≤ i) (h1 : i < n) : ∃ ad A0 c0, A = some ad ∧ w.cell? (ad.add i.toNat) = some (.slice A0 (rd_L1 xs i).length c0) ∧ (rd_L1 xs i).length ≤ c0 ∧ (Kd.int .i64).C w A0 (rd_L1 xs i).length (rd_L1 xs i) := by
  obtain ⟨ad, c, e, _, hK, hc0⟩ := Kd.C_get h ([] : List Int) i h0 h1
  have hc : ∀ j u, c[j]? = some u → w.cell? (ad.add (i.toNat * 1 + j)) = some u := hc0
  obtain ⟨A0, c0, rfl, l0, g0⟩ := hK
  exact ⟨ad, A0, c0, e, by have hq := hc 0 _ rfl; rwa [Nat.mul_one, Nat.add_zero] at hq, l0, g0⟩

/-! #### struct type 56 -/
structure S56 where
  f0 : Int
  f1 : Int
  f2 : Int
def z56 : S56 := ⟨(0 : Int), (0 : Int), (0 : Int)⟩
def k56 : Kd S56 := Kd.iso (Kd.pair (Kd.int .i64) (Kd.pair (Kd.int .i64) (Kd.int .u32))) (fun x : S56 => (x.f0, x.f1, x.f2))
theorem k56_open {w : World} {x : S56} {cs : List Value} (h : k56.K w x cs) : cs = [.int .i64 x.f0, .int .i64 x.f1, .int .u32 x.f2] := by
  obtain ⟨_, _, rfl, rfl, ⟨_, _, rfl, rfl, rfl⟩⟩ := h
  exact rfl
theorem k56_openM {w : World} {base : Nat} {ok : Nat → Prop} {x : S56} {cs : List Value} (h : k56.M w base ok x cs) : cs = [.int .i64 x.f0, .int .i64 x.f1, .int .u32 x.f2] := by
  obtain ⟨_, _, rfl, rfl, ⟨_, _, rfl, rfl, rfl⟩⟩ := h
  exact rfl
theorem k56_mk (w : World) (x : S56)  : k56.K w x [.int .i64 x.f0, .int .i64 x.f1, .int .u32 x.f2] := ⟨[.int .i64 x.f0], [.int .i64 x.f1, .int .u32 x.f2], rfl, rfl, ⟨[.int .i64 x.f1], [.int .u32 x.f2], rfl, rfl, rfl⟩⟩
theorem k56_mkM (w : World) (base : Nat) (ok : Nat → Prop) (x : S56)  : k56.M w base ok x [.int .i64 x.f0, .int .i64 x.f1, .int .u32 x.f2] := ⟨[.int .i64 x.f0], [.int .i64 x.f1, .int .u32 x.f2], rfl, rfl, ⟨[.int .i64 x.f1], [.int .u32 x.f2], rfl, rfl, rfl⟩⟩
theorem k56_mkF (W : World) (ok : Nat → Prop) (x : S56) : Kd.FK k56 W ok x [.int .i64 x.f0, .int .i64 x.f1, .int .u32 x.f2] := fun W2 _ => k56_mk W2 x
def rd_T56 (xs : List S56) (i : Int) : S56 := xs.getD i.toNat z56
theorem at_T56 {w : World} {A : Option Addr} {n : Nat} {xs : List S56} (h : Kd.C k56 w A n xs) (i : Int) (h0 : 0 ≤ i) (h1 : i < n) : ∃ ad , A = some ad ∧ w.cell? (ad.add (i.toNat * 3)) = some (.int .i64 (rd_T56 xs i).f0) ∧ w.cell? ⟨(ad.add (i.toNat * 3)).block, (ad.add (i.toNat * 3)).off + 1, none⟩ = some (.int .i64 (rd_T56 xs i).f1) ∧ w.cell? ⟨(ad.add (i.toNat * 3)).block, (ad.add (i.toNat * 3)).off + 2, none⟩ = some (.int .u32 (rd_T56 xs i).f2) := by
  obtain ⟨ad, c, e, _, hK, hc0⟩ := Kd.C_get h z56 i h0 h1
  have hc : ∀ j u, c[j]? = some u → w.cell? (ad.add (i.toNat * 3 + j)) = some u := hc0
  obtain rfl := k56_open hK
  exact ⟨ad, e, hc 0 _ rfl, by rw [← add_field _ _ 1 (by omega)]; exact hc 1 _ rfl, by rw [← add_field _ _ 2 (by omega)]; exact hc 2 _ rfl⟩

/-! #### struct type 36 -/
structure S36 where
  f0 : Int
  f1 : Int
  f2 : Int
def z36 : S36 := ⟨(0 : Int), (0 : Int), (0 : Int)⟩
def k36 : Kd S36 := Kd.iso (Kd.pair (Kd.int .i64) (Kd.pair (Kd.int .i64) (Kd.int .u32))) (fun x : S36 => (x.f0, x.f1, x.f2))
theorem k36_open {w : World} {x : S36} {cs : List Value} (h : k36.K w x cs) : cs = [.int .i64 x.f0, .int .i64 x.f1, .int .u32 x.f2] := by
  obtain ⟨_, _, rfl, rfl, ⟨_, _, rfl, rfl, rfl⟩⟩ := h
  exact rfl
theorem k36_openM {w : World} {base : Nat} {ok : Nat → Prop} {x : S36} {cs : List Value} (h : k36.M w base ok x cs) : cs = [.int .i64 x.f0, .int .i64 x.f1, .int .u32 x.f2] := by
  obtain ⟨_, _, rfl, rfl, ⟨_, _, rfl, rfl, rfl⟩⟩ := h
  exact rfl
theorem k36_mk (w : World) (x : S36)  : k36.K w x [.int .i64 x.f0, .int .i64 x.f1, .int .u32 x.f2] := ⟨[.int .i64 x.f0], [.int .i64 x.f1, .int .u32 x.f2], rfl, rfl, ⟨[.int .i64 x.f1], [.int .u32 x.f2], rfl, rfl, rfl⟩⟩
theorem k36_mkM (w : World) (base : Nat) (ok : Nat → Prop) (x : S36)  : k36.M w base ok x [.int .i64 x.f0, .int .i64 x.f1, .int .u32 x.f2] := ⟨[.int .i64 x.f0], [.int .i64 x.f1, .int .u32 x.f2], rfl, rfl, ⟨[.int .i64 x.f1], [.int .u32 x.f2], rfl, rfl, rfl⟩⟩
theorem k36_mkF (W : World) (ok : Nat → Prop) (x : S36) : Kd.FK k36 W ok x [.int .i64 x.f0, .int .i64 x.f1, .int .u32 x.f2] := fun W2 _ => k36_mk W2 x
def rd_T36 (xs : List S36) (i : Int) : S36 := xs.getD i.toNat z36
theorem at_T36 {w : World} {A : Option Addr} {n : Nat} {xs : List S36} (h : Kd.C k36 w A n xs) (i : Int) (h0 : 0 ≤ i) (h1 : i < n) : ∃ ad , A = some ad ∧ w.cell? (ad.add (i.toNat * 3)) = some (.int .i64 (rd_T36 xs i).f0) ∧ w.cell? ⟨(ad.add (i.toNat * 3)).block, (ad.add (i.toNat * 3)).off + 1, none⟩ = some (.int .i64 (rd_T36 xs i).f1) ∧ w.cell? ⟨(ad.add (i.toNat * 3)).block, (ad.add (i.toNat * 3)).off + 2, none⟩ = some (.int .u32 (rd_T36 xs i).f2) := by
  obtain ⟨ad, c, e, _, hK, hc0⟩ := Kd.C_get h z36 i h0 h1
  have hc : ∀ j u, c[j]? = some u → w.cell? (ad.add (i.toNat * 3 + j)) = some u := hc0
  obtain rfl := k36_open hK
  exact ⟨ad, e, hc 0 _ rfl, by rw [← add_field _ _ 1 (by omega)]; exact hc 1 _ rfl, by rw [← add_field _ _ 2 (by omega)]; exact hc 2 _ rfl⟩


-- NOT PRINTED: function 44 (slices_IndexFunc_int_int)

-- NOT PRINTED: function 31 (slices_ContainsFunc_int_int)

-- NOT PRINTED: function 17 (mani_Manifest_sized)

/-! ### mani_Manifest_stacks: function 32 -/
def mani_Manifest_stacks.f (l0_0 : List (S56)) (l0_1 : List Int) (a0_2 : Int) (l0_3 : List (List Int)) : Option ((List (List Int))) := (some (([l0_1] : List (List Int)) : List (List Int))).bind fun y103 => (if a0_2 = (-1) then (if y103.length + l0_3.length < 5864062014805 then (some (y103 ++ l0_3)) else (none)) else (if y103.length < 5864062014805 then ((some (y103 ++ [(([a0_2] : List Int))] : List (List Int))).bind fun y112 => (if y112.length + l0_3.length < 5864062014805 then (some (y112 ++ l0_3)) else (none))) else (none)))
-- NOT PRINTED: function 18 (mani_Manifest_named)

/-! ### blob_Pages: function 34 -/
def blob_Pages.f (a0 : Int) : Option (Int) := if a0 < 1 then (some 0) else (if a0 > 16384 then (some 0) else (some (wrap64 (Int.tdiv (wrap64 ((wrap64 (a0 + 64)) - 1)) 64))))
/-! ### blob_Right: function 33 -/
def blob_Right.f (a0_0 : Int) (a0_1 : Int) (a0_2 : Int) (a1 : Int) : Option (Bool) := (blob_Pages.f a0_1).bind fun t127 => (if t127 > 0 then (if a0_0 ≥ 0 then (some (decide (a0_0 ≤ (wrap64 (a1 - t127))))) else (some false)) else (some false))
/-! ### mani_Manifest_marked: function 19 -/
mutual
def mani_Manifest_marked.l0 : Nat → Int → List Bool → List (S56) → Int → Int → Option (List Bool × Bool)
  | 0, _, _, _, _, _ => none
  | k + 1, x1, x6, x17, x18, x19 => if x19 < x18 then (if 0 ≤ x19 then (if x19 < (x17.length : Int) then ((blob_Right.f ((rd_T56 x17 x19).f0) ((rd_T56 x17 x19).f1) ((rd_T56 x17 x19).f2) x1).bind fun t136 => (if t136 = true then ((blob_Pages.f ((rd_T56 x17 x19).f1)).bind fun t137 => (mani_Manifest_marked.l1 k x1 x6 x17 x18 x19 t137 0 ((rd_T56 x17 x19).f0) ((rd_T56 x17 x19).f1) ((rd_T56 x17 x19).f2))) else (some (([] : List Bool), false)))) else (none)) else (none)) else (some (x6, true))
def mani_Manifest_marked.l1 : Nat → Int → List Bool → List (S56) → Int → Int → Int → Int → Int → Int → Int → Option (List Bool × Bool)
  | 0, _, _, _, _, _, _, _, _, _, _ => none
  | k + 1, x1, x6, x17, x18, x19, x29, x30, x136000, x136001, x136002 => if x30 < x29 then (if 0 ≤ (wrap64 (x136000 + x30)) then (if (wrap64 (x136000 + x30)) < (x6.length : Int) then (if rdOf false x6 (wrap64 (x136000 + x30)) = true then (some (([] : List Bool), false)) else (mani_Manifest_marked.l1 k x1 (x6.set ((wrap64 (x136000 + x30)) : Int).toNat true) x17 x18 x19 x29 (wrap64 (x30 + 1)) x136000 x136001 x136002)) else (none)) else (none)) else (mani_Manifest_marked.l0 k x1 x6 x17 x18 (wrap64 (x19 + 1)))
end
def mani_Manifest_marked.f (k : Nat) (l0_0 : List (S56)) (l0_1 : List Int) (a0_2 : Int) (l0_3 : List (List Int)) (a1 : Int) : Option (List Bool × Bool) := if 0 ≤ a1 then (if (a1 : Int).toNat ≤ 281474976710656 then ((some (List.replicate (a1 : Int).toNat false : List Bool)).bind fun y129 => (if 0 < (y129.length : Int) then (if 1 < (y129.length : Int) then (mani_Manifest_marked.l0 k a1 ((y129.set (0 : Int).toNat true).set (1 : Int).toNat true) l0_0 (l0_0.length : Int) 0) else (none)) else (none))) else (none)) else (none)
theorem mani_Manifest_marked.mono_l : ∀ k, (∀ y0 y1 y2 y3 y4, LeO (mani_Manifest_marked.l0 k y0 y1 y2 y3 y4) (mani_Manifest_marked.l0 (k + 1) y0 y1 y2 y3 y4)) ∧ (∀ y0 y1 y2 y3 y4 y5 y6 y7 y8 y9, LeO (mani_Manifest_marked.l1 k y0 y1 y2 y3 y4 y5 y6 y7 y8 y9) (mani_Manifest_marked.l1 (k + 1) y0 y1 y2 y3 y4 y5 y6 y7 y8 y9))
  | 0 => ⟨fun _ _ _ _ _ r h => by simp [mani_Manifest_marked.l0] at h, fun _ _ _ _ _ _ _ _ _ _ r h => by simp [mani_Manifest_marked.l1] at h⟩
  | k + 1 => by
    obtain ⟨ih0, ih1⟩ := mani_Manifest_marked.mono_l k
    refine ⟨?_, ?_⟩
    · intro y0 y1 y2 y3 y4
      unfold mani_Manifest_marked.l0
      repeat' first
      | (with_reducible exact ih0 _ _ _ _ _)
      | (with_reducible exact ih1 _ _ _ _ _ _ _ _ _ _)
      | (with_reducible exact LeO.refl _)
      | (with_reducible exact LeO.none _)
      | (with_reducible refine LeO.ite ?_ ?_)
      | (with_reducible refine LeO.bind ?_ (fun _ => ?_))
      | exact ih0 _ _ _ _ _
      | exact ih1 _ _ _ _ _ _ _ _ _ _
      | exact LeO.none _
      | refine LeO.ite ?_ ?_
      | refine LeO.bind ?_ (fun _ => ?_)
    · intro y0 y1 y2 y3 y4 y5 y6 y7 y8 y9
      unfold mani_Manifest_marked.l1
      repeat' first
      | (with_reducible exact ih0 _ _ _ _ _)
      | (with_reducible exact ih1 _ _ _ _ _ _ _ _ _ _)
      | (with_reducible exact LeO.refl _)
      | (with_reducible exact LeO.none _)
      | (with_reducible refine LeO.ite ?_ ?_)
      | (with_reducible refine LeO.bind ?_ (fun _ => ?_))
      | exact ih0 _ _ _ _ _
      | exact ih1 _ _ _ _ _ _ _ _ _ _
      | exact LeO.none _
      | refine LeO.ite ?_ ?_
      | refine LeO.bind ?_ (fun _ => ?_)
theorem mani_Manifest_marked.mono : ∀ a0 a1 a2 a3 a4 k, LeO (mani_Manifest_marked.f k a0 a1 a2 a3 a4) (mani_Manifest_marked.f (k + 1) a0 a1 a2 a3 a4) := by
  intro a0 a1 a2 a3 a4 k
  obtain ⟨ih0, ih1⟩ := mani_Manifest_marked.mono_l k
  unfold mani_Manifest_marked.f
  repeat' first
      | (with_reducible exact ih0 _ _ _ _ _)
      | (with_reducible exact ih1 _ _ _ _ _ _ _ _ _ _)
      | (with_reducible exact LeO.refl _)
      | (with_reducible exact LeO.none _)
      | (with_reducible refine LeO.ite ?_ ?_)
      | (with_reducible refine LeO.bind ?_ (fun _ => ?_))
      | exact ih0 _ _ _ _ _
      | exact ih1 _ _ _ _ _ _ _ _ _ _
      | exact LeO.none _
      | refine LeO.ite ?_ ?_
      | refine LeO.bind ?_ (fun _ => ?_)
/-! ### slices_Index_bool_bool: function 35 -/
def slices_Index_bool_bool.l0 : Nat → List Bool → Bool → Int → Int → Option (Int)
  | 0, _, _, _, _ => none
  | k + 1, x0, x1, x7, x8 => if x8 < x7 then (if 0 ≤ x8 then (if x8 < (x0.length : Int) then (if (x1 == (rdOf false x0 x8)) = true then (some x8) else (slices_Index_bool_bool.l0 k x0 x1 x7 (wrap64 (x8 + 1)))) else (none)) else (none)) else (some (-1))
def slices_Index_bool_bool.f (k : Nat) (l0 : List Bool) (a1 : Bool) : Option (Int) := slices_Index_bool_bool.l0 k l0 a1 (l0.length : Int) 0
theorem slices_Index_bool_bool.mono_l : ∀ k, (∀ y0 y1 y2 y3, LeO (slices_Index_bool_bool.l0 k y0 y1 y2 y3) (slices_Index_bool_bool.l0 (k + 1) y0 y1 y2 y3))
  | 0 => fun _ _ _ _ r h => by simp [slices_Index_bool_bool.l0] at h
  | k + 1 => by
    have ih0 := slices_Index_bool_bool.mono_l k
    · intro y0 y1 y2 y3
      unfold slices_Index_bool_bool.l0
      repeat' first
      | (with_reducible exact ih0 _ _ _ _)
      | (with_reducible exact LeO.refl _)
      | (with_reducible exact LeO.none _)
      | (with_reducible refine LeO.ite ?_ ?_)
      | (with_reducible refine LeO.bind ?_ (fun _ => ?_))
      | exact ih0 _ _ _ _
      | exact LeO.none _
      | refine LeO.ite ?_ ?_
      | refine LeO.bind ?_ (fun _ => ?_)
theorem slices_Index_bool_bool.mono : ∀ a0 a1 k, LeO (slices_Index_bool_bool.f k a0 a1) (slices_Index_bool_bool.f (k + 1) a0 a1) := by
  intro a0 a1 k
  have ih0 := slices_Index_bool_bool.mono_l k
  unfold slices_Index_bool_bool.f
  repeat' first
      | (with_reducible exact ih0 _ _ _ _)
      | (with_reducible exact LeO.refl _)
      | (with_reducible exact LeO.none _)
      | (with_reducible refine LeO.ite ?_ ?_)
      | (with_reducible refine LeO.bind ?_ (fun _ => ?_))
      | exact ih0 _ _ _ _
      | exact LeO.none _
      | refine LeO.ite ?_ ?_
      | refine LeO.bind ?_ (fun _ => ?_)
/-! ### slices_Contains_bool_bool: function 20 -/
def slices_Contains_bool_bool.f (k : Nat) (l0 : List Bool) (a1 : Bool) : Option (Bool) := (slices_Index_bool_bool.f k l0 a1).bind fun t141 => (some (decide (t141 ≥ 0)))
theorem slices_Contains_bool_bool.mono : ∀ a0 a1 k, LeO (slices_Contains_bool_bool.f k a0 a1) (slices_Contains_bool_bool.f (k + 1) a0 a1) := by
  intro a0 a1 k
  unfold slices_Contains_bool_bool.f
  repeat' first
      | (with_reducible exact slices_Index_bool_bool.mono _ _ _)
      | (with_reducible exact LeO.refl _)
      | (with_reducible exact LeO.none _)
      | (with_reducible refine LeO.ite ?_ ?_)
      | (with_reducible refine LeO.bind ?_ (fun _ => ?_))
      | exact slices_Index_bool_bool.mono _ _ _
      | exact LeO.none _
      | refine LeO.ite ?_ ?_
      | refine LeO.bind ?_ (fun _ => ?_)
-- NOT PRINTED: function 9 (mani_Right)

-- NOT PRINTED: function 22 (fail_At)


/-! ### code_Num: function 36 -/
mutual
def code_Num.j0 : Nat → Int → Bool → Option (ByteArray)
  | 0, _, _ => none
  | k + 1, x0, x9 => if x9 = true then (some (⟨#[]⟩ : ByteArray)) else (code_Num.l0 k x0 ([] : List Int))
def code_Num.l0 : Nat → Int → List Int → Option (ByteArray)
  | 0, _, _ => none
  | k + 1, x0, x3 => if x0 ≥ 128 then (if x3.length < 140737488355328 then (code_Num.l0 k (x0 / 128) (x3 ++ [(Go.bits .or .i64 (Go.bits .and .i64 x0 127) 128) % 256])) else (none)) else (if x3.length < 140737488355328 then (some (strOfNums (x3 ++ [(x0) % 256]))) else (none))
end
def code_Num.f (k : Nat) (a0 : Int) : Option (ByteArray) := if a0 < 0 then (code_Num.j0 k a0 true) else (code_Num.j0 k a0 (decide (a0 > 4611686018427387904)))
theorem code_Num.mono_l : ∀ k, (∀ y0 y1, LeO (code_Num.j0 k y0 y1) (code_Num.j0 (k + 1) y0 y1)) ∧ (∀ y0 y1, LeO (code_Num.l0 k y0 y1) (code_Num.l0 (k + 1) y0 y1))
  | 0 => ⟨fun _ _ r h => by simp [code_Num.j0] at h, fun _ _ r h => by simp [code_Num.l0] at h⟩
  | k + 1 => by
    obtain ⟨ih0, ih1⟩ := code_Num.mono_l k
    refine ⟨?_, ?_⟩
    · intro y0 y1
      unfold code_Num.j0
      repeat' first
      | (with_reducible exact ih0 _ _)
      | (with_reducible exact ih1 _ _)
      | (with_reducible exact LeO.refl _)
      | (with_reducible exact LeO.none _)
      | (with_reducible refine LeO.ite ?_ ?_)
      | (with_reducible refine LeO.bind ?_ (fun _ => ?_))
      | exact ih0 _ _
      | exact ih1 _ _
      | exact LeO.none _
      | refine LeO.ite ?_ ?_
      | refine LeO.bind ?_ (fun _ => ?_)
    · intro y0 y1
      unfold code_Num.l0
      repeat' first
      | (with_reducible exact ih0 _ _)
      | (with_reducible exact ih1 _ _)
      | (with_reducible exact LeO.refl _)
      | (with_reducible exact LeO.none _)
      | (with_reducible refine LeO.ite ?_ ?_)
      | (with_reducible refine LeO.bind ?_ (fun _ => ?_))
      | exact ih0 _ _
      | exact ih1 _ _
      | exact LeO.none _
      | refine LeO.ite ?_ ?_
      | refine LeO.bind ?_ (fun _ => ?_)
theorem code_Num.mono : ∀ a0 k, LeO (code_Num.f k a0) (code_Num.f (k + 1) a0) := by
  intro a0 k
  obtain ⟨ih0, ih1⟩ := code_Num.mono_l k
  unfold code_Num.f
  repeat' first
      | (with_reducible exact ih0 _ _)
      | (with_reducible exact ih1 _ _)
      | (with_reducible exact LeO.refl _)
      | (with_reducible exact LeO.none _)
      | (with_reducible refine LeO.ite ?_ ?_)
      | (with_reducible refine LeO.bind ?_ (fun _ => ?_))
      | exact ih0 _ _
      | exact ih1 _ _
      | exact LeO.none _
      | refine LeO.ite ?_ ?_
      | refine LeO.bind ?_ (fun _ => ?_)
/-! ### mani_nums: function 23 -/
def mani_nums.l0 : Nat → ByteArray → List Int → Int → Int → Option (ByteArray)
  | 0, _, _, _, _ => none
  | k + 1, x3, x6, x7, x8 => if x8 < x7 then (if 0 ≤ x8 then (if x8 < (x6.length : Int) then ((code_Num.f k (rd x6 x8)).bind fun t151 => (if x3.size + t151.size ≤ 9223372036854775807 then (mani_nums.l0 k (x3 ++ t151) x6 x7 (wrap64 (x8 + 1))) else (none))) else (none)) else (none)) else (some x3)
def mani_nums.f (k : Nat) (l0 : List Int) : Option (ByteArray) := mani_nums.l0 k (⟨#[]⟩ : ByteArray) l0 (l0.length : Int) 0
theorem mani_nums.mono_l : ∀ k, (∀ y0 y1 y2 y3, LeO (mani_nums.l0 k y0 y1 y2 y3) (mani_nums.l0 (k + 1) y0 y1 y2 y3))
  | 0 => fun _ _ _ _ r h => by simp [mani_nums.l0] at h
  | k + 1 => by
    have ih0 := mani_nums.mono_l k
    · intro y0 y1 y2 y3
      unfold mani_nums.l0
      repeat' first
      | (with_reducible exact ih0 _ _ _ _)
      | (with_reducible exact code_Num.mono _ _)
      | (with_reducible exact LeO.refl _)
      | (with_reducible exact LeO.none _)
      | (with_reducible refine LeO.ite ?_ ?_)
      | (with_reducible refine LeO.bind ?_ (fun _ => ?_))
      | exact ih0 _ _ _ _
      | exact code_Num.mono _ _
      | exact LeO.none _
      | refine LeO.ite ?_ ?_
      | refine LeO.bind ?_ (fun _ => ?_)
theorem mani_nums.mono : ∀ a0 k, LeO (mani_nums.f k a0) (mani_nums.f (k + 1) a0) := by
  intro a0 k
  have ih0 := mani_nums.mono_l k
  unfold mani_nums.f
  repeat' first
      | (with_reducible exact ih0 _ _ _ _)
      | (with_reducible exact code_Num.mono _ _)
      | (with_reducible exact LeO.refl _)
      | (with_reducible exact LeO.none _)
      | (with_reducible refine LeO.ite ?_ ?_)
      | (with_reducible refine LeO.bind ?_ (fun _ => ?_))
      | exact ih0 _ _ _ _
      | exact code_Num.mono _ _
      | exact LeO.none _
      | refine LeO.ite ?_ ?_
      | refine LeO.bind ?_ (fun _ => ?_)
/-! ### blob_Lay: function 24 -/
def blob_Lay.f (k : Nat) (a0_0 : Int) (a0_1 : Int) (a0_2 : Int) : Option (ByteArray) := (code_Num.f k a0_0).bind fun t153 => ((code_Num.f k a0_1).bind fun t154 => (if t153.size + t154.size ≤ 9223372036854775807 then ((code_Num.f k (wrap64 (a0_2))).bind fun t155 => (if (t153 ++ t154).size + t155.size ≤ 9223372036854775807 then (some ((t153 ++ t154) ++ t155)) else (none))) else (none)))
theorem blob_Lay.mono : ∀ a0 a1 a2 k, LeO (blob_Lay.f k a0 a1 a2) (blob_Lay.f (k + 1) a0 a1 a2) := by
  intro a0 a1 a2 k
  unfold blob_Lay.f
  repeat' first
      | (with_reducible exact code_Num.mono _ _)
      | (with_reducible exact LeO.refl _)
      | (with_reducible exact LeO.none _)
      | (with_reducible refine LeO.ite ?_ ?_)
      | (with_reducible refine LeO.bind ?_ (fun _ => ?_))
      | exact code_Num.mono _ _
      | exact LeO.none _
      | refine LeO.ite ?_ ?_
      | refine LeO.bind ?_ (fun _ => ?_)
def blob_Lay.T1 : Bool × List (List Nat × List Nat) := (true, [([], []), ([0], [0]), ([1], [1]), ([], []), ([3], [3]), ([4, 2], [4]), ([2, 5], [2, 5]), ([], []), ([7], [7]), ([8], [8]), ([9, 5], [9]), ([6, 10], [6, 10]), ([11, 10, 0, 1, 2, 3, 4, 5, 6, 7, 8, 9, 10, 11], [11])])
def blob_Lay.B1 : List Nat := [0, 1, 3, 0, 8, 31, 63, 0, 128, 384, 959, 2047, 4095]
theorem blob_Lay.tab1 : rtab .any (opsOf Tryd.f24 1) = blob_Lay.T1 := by kernel_rfl
theorem blob_Lay.bits1 : waitsOk blob_Lay.T1.2 blob_Lay.B1 = true := by kernel_rfl
-- NOT PRINTED: function 13 (mani_Lay)

-- NOT PRINTED: function 37 (reflectlite_ValueOf)

-- NOT PRINTED: function 38 (reflectlite_Value_Type)

-- NOT PRINTED: function 39 (reflectlite_Value_IsNil)

-- NOT PRINTED: function 45 (reflectlite_TypeOf)

-- NOT PRINTED: function 46 (reflectlite_Value_Elem)

-- NOT PRINTED: function 47 (reflectlite_Value_Set)

-- NOT PRINTED: function 40 (errors_as)

-- NOT PRINTED: function 25 (errors_As)

-- NOT PRINTED: function 14 (fail_Code)

-- NOT PRINTED: function 7 (shalelaw20_awake)

/-! ### shalelaw20_Few: function 8 -/
mutual
def shalelaw20_Few.j0 : Nat → Bool → List (S36) → List Int → Int → List (List Int) → Option (Int)
  | 0, _, _, _, _, _ => none
  | k + 1, x19, x158000, x158001, x158002, x158003 => if x19 = true then (some 0) else (shalelaw20_Few.l0 k 0 x158000 x158001 x158002 x158003)
def shalelaw20_Few.l0 : Nat → Int → List (S36) → List Int → Int → List (List Int) → Option (Int)
  | 0, _, _, _, _, _ => none
  | k + 1, x3, x158000, x158001, x158002, x158003 => if x3 < (x158003.length : Int) then (if 0 ≤ x3 then (if ((rd_L1 x158003 x3).length : Int) > 20 then (some 0) else (shalelaw20_Few.l0 k (wrap64 (x3 + 1)) x158000 x158001 x158002 x158003)) else (none)) else (some 1)
end
def shalelaw20_Few.f (k : Nat) (l0_0 : List (S36)) (l0_1 : List Int) (a0_2 : Int) (l0_3 : List (List Int)) : Option (Int) := if (l0_0.length : Int) > 80 then (shalelaw20_Few.j0 k true l0_0 l0_1 a0_2 l0_3) else (if (l0_1.length : Int) > 20 then (shalelaw20_Few.j0 k true l0_0 l0_1 a0_2 l0_3) else (shalelaw20_Few.j0 k (decide ((l0_3.length : Int) > 20)) l0_0 l0_1 a0_2 l0_3))
theorem shalelaw20_Few.mono_l : ∀ k, (∀ y0 y1 y2 y3 y4, LeO (shalelaw20_Few.j0 k y0 y1 y2 y3 y4) (shalelaw20_Few.j0 (k + 1) y0 y1 y2 y3 y4)) ∧ (∀ y0 y1 y2 y3 y4, LeO (shalelaw20_Few.l0 k y0 y1 y2 y3 y4) (shalelaw20_Few.l0 (k + 1) y0 y1 y2 y3 y4))
  | 0 => ⟨fun _ _ _ _ _ r h => by simp [shalelaw20_Few.j0] at h, fun _ _ _ _ _ r h => by simp [shalelaw20_Few.l0] at h⟩
  | k + 1 => by
    obtain ⟨ih0, ih1⟩ := shalelaw20_Few.mono_l k
    refine ⟨?_, ?_⟩
    · intro y0 y1 y2 y3 y4
      unfold shalelaw20_Few.j0
      repeat' first
      | (with_reducible exact ih0 _ _ _ _ _)
      | (with_reducible exact ih1 _ _ _ _ _)
      | (with_reducible exact LeO.refl _)
      | (with_reducible exact LeO.none _)
      | (with_reducible refine LeO.ite ?_ ?_)
      | (with_reducible refine LeO.bind ?_ (fun _ => ?_))
      | exact ih0 _ _ _ _ _
      | exact ih1 _ _ _ _ _
      | exact LeO.none _
      | refine LeO.ite ?_ ?_
      | refine LeO.bind ?_ (fun _ => ?_)
    · intro y0 y1 y2 y3 y4
      unfold shalelaw20_Few.l0
      repeat' first
      | (with_reducible exact ih0 _ _ _ _ _)
      | (with_reducible exact ih1 _ _ _ _ _)
      | (with_reducible exact LeO.refl _)
      | (with_reducible exact LeO.none _)
      | (with_reducible refine LeO.ite ?_ ?_)
      | (with_reducible refine LeO.bind ?_ (fun _ => ?_))
      | exact ih0 _ _ _ _ _
      | exact ih1 _ _ _ _ _
      | exact LeO.none _
      | refine LeO.ite ?_ ?_
      | refine LeO.bind ?_ (fun _ => ?_)
theorem shalelaw20_Few.mono : ∀ a0 a1 a2 a3 k, LeO (shalelaw20_Few.f k a0 a1 a2 a3) (shalelaw20_Few.f (k + 1) a0 a1 a2 a3) := by
  intro a0 a1 a2 a3 k
  obtain ⟨ih0, ih1⟩ := shalelaw20_Few.mono_l k
  unfold shalelaw20_Few.f
  repeat' first
      | (with_reducible exact ih0 _ _ _ _ _)
      | (with_reducible exact ih1 _ _ _ _ _)
      | (with_reducible exact LeO.refl _)
      | (with_reducible exact LeO.none _)
      | (with_reducible refine LeO.ite ?_ ?_)
      | (with_reducible refine LeO.bind ?_ (fun _ => ?_))
      | exact ih0 _ _ _ _ _
      | exact ih1 _ _ _ _ _
      | exact LeO.none _
      | refine LeO.ite ?_ ?_
      | refine LeO.bind ?_ (fun _ => ?_)
/-! ### shalelaw20_Of: function 10 -/
def shalelaw20_Of.l0 : Nat → Int → List (S36) → List Int → Int → List (List Int) → List (S56) → List Int → Int → List (List Int) → Option ((List (S56)) × List Int × Int × (List (List Int)))
  | 0, _, _, _, _, _, _, _, _, _ => none
  | k + 1, x4, x160000, x160001, x160002, x160003, x162000, x162001, x162002, x162003 => if x4 < (x160000.length : Int) then (if 0 ≤ x4 then (if x162000.length < 5864062014805 then (shalelaw20_Of.l0 k (wrap64 (x4 + 1)) x160000 x160001 x160002 x160003 (x162000 ++ [(⟨(rd_T36 x160000 x4).f0, (rd_T36 x160000 x4).f1, (rd_T36 x160000 x4).f2⟩ : S56)]) x162001 x162002 x162003) else (none)) else (none)) else (some (x162000, x162001, x162002, x162003))
def shalelaw20_Of.f (k : Nat) (l0_0 : List (S36)) (l0_1 : List Int) (a0_2 : Int) (l0_3 : List (List Int)) : Option ((List (S56)) × List Int × Int × (List (List Int))) := shalelaw20_Of.l0 k 0 l0_0 l0_1 a0_2 l0_3 ([] : List (S56)) l0_1 a0_2 l0_3
theorem shalelaw20_Of.mono_l : ∀ k, (∀ y0 y1 y2 y3 y4 y5 y6 y7 y8, LeO (shalelaw20_Of.l0 k y0 y1 y2 y3 y4 y5 y6 y7 y8) (shalelaw20_Of.l0 (k + 1) y0 y1 y2 y3 y4 y5 y6 y7 y8))
  | 0 => fun _ _ _ _ _ _ _ _ _ r h => by simp [shalelaw20_Of.l0] at h
  | k + 1 => by
    have ih0 := shalelaw20_Of.mono_l k
    · intro y0 y1 y2 y3 y4 y5 y6 y7 y8
      unfold shalelaw20_Of.l0
      repeat' first
      | (with_reducible exact ih0 _ _ _ _ _ _ _ _ _)
      | (with_reducible exact LeO.refl _)
      | (with_reducible exact LeO.none _)
      | (with_reducible refine LeO.ite ?_ ?_)
      | (with_reducible refine LeO.bind ?_ (fun _ => ?_))
      | exact ih0 _ _ _ _ _ _ _ _ _
      | exact LeO.none _
      | refine LeO.ite ?_ ?_
      | refine LeO.bind ?_ (fun _ => ?_)
theorem shalelaw20_Of.mono : ∀ a0 a1 a2 a3 k, LeO (shalelaw20_Of.f k a0 a1 a2 a3) (shalelaw20_Of.f (k + 1) a0 a1 a2 a3) := by
  intro a0 a1 a2 a3 k
  have ih0 := shalelaw20_Of.mono_l k
  unfold shalelaw20_Of.f
  repeat' first
      | (with_reducible exact ih0 _ _ _ _ _ _ _ _ _)
      | (with_reducible exact LeO.refl _)
      | (with_reducible exact LeO.none _)
      | (with_reducible refine LeO.ite ?_ ?_)
      | (with_reducible refine LeO.bind ?_ (fun _ => ?_))
      | exact ih0 _ _ _ _ _ _ _ _ _
      | exact LeO.none _
      | refine LeO.ite ?_ ?_
      | refine LeO.bind ?_ (fun _ => ?_)
def shalelaw20_Of.T5 : Bool × List (List Nat × List Nat) := (true, [([], []), ([0], [0]), ([], []), ([2], [2]), ([], []), ([3, 4], [3, 4]), ([5], [5]), ([6], [6]), ([], []), ([8], [8]), ([], []), ([9, 10], [9, 10]), ([11], [11]), ([12], [12]), ([], []), ([14], [14]), ([], []), ([15, 16], [15, 16]), ([17], [17]), ([18], [18]), ([7, 13, 19], [7, 13, 19]), ([20], [20]), ([1, 21], [1, 21]), ([0, 1, 2, 3, 4, 5, 6, 7, 8, 9, 10, 11, 12, 13, 14, 15, 16, 17, 18, 19, 20, 21, 22], []), ([23, 22, 22, 0, 1, 2, 3, 4, 5, 6, 7, 8, 9, 10, 11, 12, 13, 14, 15, 16, 17, 18, 19, 20, 21, 22], [22, 23])])
def shalelaw20_Of.B5 : List Nat := [0, 1, 0, 4, 0, 28, 60, 124, 0, 256, 0, 1792, 3840, 7936, 0, 16384, 0, 114688, 245760, 507904, 1048572, 2097148, 4194303, 8388607, 16777215]
theorem shalelaw20_Of.tab5 : rtab .any (opsOf Tryd.f10 5) = shalelaw20_Of.T5 := by kernel_rfl
theorem shalelaw20_Of.bits5 : waitsOk shalelaw20_Of.T5.2 shalelaw20_Of.B5 = true := by kernel_rfl
/-! ### mani_told: function 21 -/
def mani_told.l0 : Nat → List Int → List Int → List Int → Int → Int → Option (List Int)
  | 0, _, _, _, _, _ => none
  | k + 1, x1, x5, x8, x9, x10 => if x10 < x9 then (if 0 ≤ x10 then (if x10 < (x8.length : Int) then (if 0 ≤ (rd x8 x10) then (if (rd x8 x10) < (x1.length : Int) then (if x5.length < 17592186044416 then (mani_told.l0 k x1 (x5 ++ [rd x1 (rd x8 x10)]) x8 x9 (wrap64 (x10 + 1))) else (none)) else (none)) else (none)) else (none)) else (none)) else (some x5)
def mani_told.f (k : Nat) (l0 : List Int) (l1 : List Int) : Option (List Int) := mani_told.l0 k l1 ([] : List Int) l0 (l0.length : Int) 0
theorem mani_told.mono_l : ∀ k, (∀ y0 y1 y2 y3 y4, LeO (mani_told.l0 k y0 y1 y2 y3 y4) (mani_told.l0 (k + 1) y0 y1 y2 y3 y4))
  | 0 => fun _ _ _ _ _ r h => by simp [mani_told.l0] at h
  | k + 1 => by
    have ih0 := mani_told.mono_l k
    · intro y0 y1 y2 y3 y4
      unfold mani_told.l0
      repeat' first
      | (with_reducible exact ih0 _ _ _ _ _)
      | (with_reducible exact LeO.refl _)
      | (with_reducible exact LeO.none _)
      | (with_reducible refine LeO.ite ?_ ?_)
      | (with_reducible refine LeO.bind ?_ (fun _ => ?_))
      | exact ih0 _ _ _ _ _
      | exact LeO.none _
      | refine LeO.ite ?_ ?_
      | refine LeO.bind ?_ (fun _ => ?_)
theorem mani_told.mono : ∀ a0 a1 k, LeO (mani_told.f k a0 a1) (mani_told.f (k + 1) a0 a1) := by
  intro a0 a1 k
  have ih0 := mani_told.mono_l k
  unfold mani_told.f
  repeat' first
      | (with_reducible exact ih0 _ _ _ _ _)
      | (with_reducible exact LeO.refl _)
      | (with_reducible exact LeO.none _)
      | (with_reducible refine LeO.ite ?_ ?_)
      | (with_reducible refine LeO.bind ?_ (fun _ => ?_))
      | exact ih0 _ _ _ _ _
      | exact LeO.none _
      | refine LeO.ite ?_ ?_
      | refine LeO.bind ?_ (fun _ => ?_)
set_option maxHeartbeats 8000000 in
set_option maxRecDepth 100000 in
theorem mani_told.calls (k : Nat) (A0 : Option Addr) (c0 : Nat) (l0 : List Int) (A1 : Option Addr) (c1 : Nat) (l1 : List Int) (r : List Int) (w : World) (hr0 : Kd.C (Kd.int .i64) w A0 l0.length l0) (hc0 : l0.length ≤ c0) (hr1 : Kd.C (Kd.int .i64) w A1 l1.length l1) (hc1 : l1.length ≤ c1) (h : mani_told.f k l0 l1 = some r) :
    Calls Tryd.prog 21 #[.slice A0 l0.length c0, .slice A1 l1.length c1] w fun e w' => ∃ v0_ : Value, e = .returned (v0_) ∧ Kd.R (Kd.int .i64) 3 w' w.heap.size (fun _ => True) v0_ r ∧ Below w.heap.size w w' := by
  have HR0 := Aside0.mk hr0
  have HC0 := Aside0.mk hc0
  clear hr0 hc0
  have HR1 := Aside0.mk hr1
  have HC1 := Aside0.mk hc1
  clear hr1 hc1
  have HB := Aside0.mk (Below.refl w.heap.size w)
  have H : (mani_told.l0 k l1 ([] : List Int) l0 (l0.length : Int) 0) = some r := h
  clear h
  have H' := Aside0.mk H
  clear H
  go_enter Tryd.func21, Tryd.ntmps21
  go_wp2
  go_loopg [5, 10] k (fun kq v5 v10 w' => ∃ (x5_1 : List Int) (x10_1 : Int), v10 = .int .i64 x10_1 ∧ Aside0 (mani_told.l0 kq l1 x5_1 l0 (l0.length : Int) x10_1 = some r) ∧ Aside0 (kq ≤ k) ∧ Aside0 (Kd.R (Kd.int .i64) 3 w' w.heap.size (fun _ => True) v5 x5_1) ∧ Aside0 (Below w.heap.size w w'))
  case atStart => exact ⟨(([] : List Int)), (0), (by first | rfl | (simp; done) | (simp [*]; done)), H', ⟨Nat.le_refl _⟩, ⟨by first | exact Kd.R_nil _ _ _ _ _ | exact Kd.N_nil _ _ _ _ _ | exact Kd.V_nil _ _ _ _ _ | exact Kd.Q_nil _ _ _ _ _ | exact Kd.S_nil _ _ _ _ _⟩, ⟨by repeat (first | (with_reducible first | exact HB.out | apply below_alloc | apply pw_below_drewN | apply below_drew1) | exact HB.out)⟩⟩
  case round =>
    clear H'
    try clear c1
    try clear c2
    try clear p2
    obtain ⟨x5_1, x10_1, rfl, HA, HK1, HO_5, HB⟩ := hrel
    cases gk with
    | zero => exact absurd HA.out (by simp [mani_told.l0])
    | succ k1 =>
      have H := HA.out
      clear HA
      simp only [mani_told.l0] at H
      by_cases c3 : x10_1 < (l0.length : Int)
      · rw [if_pos c3] at H
        have c3b0 : decide (x10_1 < (l0.length : Int)) = true := decide_eq_true c3
        clear c3
        by_cases c4 : 0 ≤ x10_1
        · rw [if_pos c4] at H
          have c4b0 : decide (0 ≤ x10_1) = true := decide_eq_true c4
          clear c4
          by_cases c5 : x10_1 < (l0.length : Int)
          · rw [if_pos c5] at H
            have c5b0 : decide (x10_1 < (l0.length : Int)) = true := decide_eq_true c5
            clear c5
            by_cases c6 : 0 ≤ (rd l0 x10_1)
            · rw [if_pos c6] at H
              have c6b0 : decide (0 ≤ (rd l0 x10_1)) = true := decide_eq_true c6
              clear c6
              by_cases c7 : (rd l0 x10_1) < (l1.length : Int)
              · rw [if_pos c7] at H
                have c7b0 : decide ((rd l0 x10_1) < (l1.length : Int)) = true := decide_eq_true c7
                clear c7
                by_cases c8 : x5_1.length < 17592186044416
                · rw [if_pos c8] at H
                  have LMc8 := Aside0.mk c8
                  clear c8
                  obtain ⟨y170, hy170⟩ : ∃ y_ : List Int, y_ = (x5_1 ++ [rd l1 (rd l0 x10_1)]) := ⟨_, rfl⟩
                  replace H : (mani_told.l0 k1 l1 y170 l0 (l0.length : Int) (wrap64 (x10_1 + 1))) = some r := by first | (rw [hy170]; with_reducible exact H) | (have H2_ := (Option.bind_some _ _).symm.trans H; rw [hy170]; with_reducible exact H2_) | (have H2_ := (Option.bind_some _ _).symm.trans H; with_reducible exact H2_) | with_reducible exact H | (rw [hy170]; exact H) | exact H
                  have Ny170 := Aside0.mk hy170
                  clear hy170
                  have H' := Aside0.mk H
                  clear H
                  have p168 : 0 ≤ (x10_1 : Int) := of_decide_eq_true (by first | (with_reducible assumption) | assumption)
                  have q168 : x10_1 < (l0.length : Int) := of_decide_eq_true (by first | (with_reducible assumption) | assumption)
                  obtain ⟨ad168, e168, hx168_0⟩ := Kd.at_int HR0.out x10_1 p168 q168
                  cases e168
                  replace hx168_0 := (HB.out.cell (World.block_lt_of_cell? w _ hx168_0)).trans hx168_0
                  replace p168 := eq_true p168
                  replace q168 := eq_true q168
                  have p169 : 0 ≤ ((rd l0 x10_1) : Int) := of_decide_eq_true (by first | (with_reducible assumption) | assumption)
                  have q169 : (rd l0 x10_1) < (l1.length : Int) := of_decide_eq_true (by first | (with_reducible assumption) | assumption)
                  obtain ⟨ad169, e169, hx169_0⟩ := Kd.at_int HR1.out (rd l0 x10_1) p169 q169
                  cases e169
                  replace hx169_0 := (HB.out.cell (World.block_lt_of_cell? w _ hx169_0)).trans hx169_0
                  replace p169 := eq_true p169
                  replace q169 := eq_true q169
                  go_wp2_with (first | ((with_reducible refine gate_builtin (b := .append) (xs := #[.tmp 14, .tmp 19]) rfl ?_); at_builtin; refine Kd.R_append (Kd.int .i64) (w0 := w) w.heap.size rfl (.tmp 14) (.tmp 19) 23 3 (.int .i64 0) 8 rfl Tryd.underlying23 info3 rfl (by decide) (by omega) u5 x5_1 (rd l1 (rd l0 x10_1)) [.int .i64 (rd l1 (rd l0 x10_1))] (fun _ => True) (fun _ => False) rfl rfl ?aP (fun _ hk => hk.elim) ?aF ?aO ?aB ?aS ?aL ?_; (case aP => exact rfl); (case aB => exact (by repeat (first | (with_reducible first | exact HB.out | apply below_alloc | apply pw_below_drewN | apply below_drew1) | exact HB.out))); (case aF => exact (fun _ _ => trivial)); (case aO => exact (by (with_reducible repeat (first | apply Kd.R_alloc | apply Kd.R_drewN | apply Kd.R_drew)); exact HO_5.out)); (case aS => exact (below_size (by repeat (first | (with_reducible first | exact HB.out | apply below_alloc | apply pw_below_drewN | apply below_drew1) | exact HB.out)))); (case aL => have := LMc8.out; omega); intro v171 w9 ho hb hg hat; rw [← Ny170.out] at ho; have n0_ := Aside0.mk (hb); have n1_ := Aside0.mk (ho); clear HB; clear HO_5; have HB := n0_; have HO172 := n1_; clear n0_ n1_; clear ho hb hg hat))
                  go_roundg k1
                  case measure => have := HK1.out; omega
                  case rel => exact ⟨(y170), (wrap64 (x10_1 + 1)), (by first | rfl | (simp; done) | (simp [*]; done)), H', ⟨by have := HK1.out; omega⟩, ⟨by (with_reducible repeat (first | apply Kd.R_alloc | apply Kd.R_drewN | apply Kd.R_drew)); exact HO172.out⟩, ⟨by repeat (first | (with_reducible first | exact HB.out | apply below_alloc | apply pw_below_drewN | apply below_drew1) | exact HB.out)⟩⟩
                · rw [if_neg c8] at H
                  exact absurd H (by simp)
              · rw [if_neg c7] at H
                exact absurd H (by simp)
            · rw [if_neg c6] at H
              exact absurd H (by simp)
          · rw [if_neg c5] at H
            exact absurd H (by simp)
        · rw [if_neg c4] at H
          exact absurd H (by simp)
      · rw [if_neg c3] at H
        have c3b0 : decide (x10_1 < (l0.length : Int)) = false := decide_eq_false c3
        clear c3
        obtain rfl := Option.some.inj H
        go_wp2
        go_ret
        exact ⟨_, by first | rfl | (simp [errW_none, errW_some] <;> rfl) | (simp [*, errW_none, errW_some] <;> rfl), by (with_reducible repeat (first | apply Kd.R_alloc | apply Kd.R_drewN | apply Kd.R_drew)); exact HO_5.out, by repeat (first | (with_reducible first | exact HB.out | apply below_alloc | apply pw_below_drewN | apply below_drew1) | exact HB.out)⟩

-- NOT PRINTED: function 12 (mani_Swept)

-- NOT PRINTED: function 4 (shalelaw20_ManiDrops)

end Go.Proofs.YtpijilfkmkdghaaDoor.QManiDrops
