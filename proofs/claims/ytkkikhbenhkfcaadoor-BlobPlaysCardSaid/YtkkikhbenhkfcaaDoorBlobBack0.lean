/- One byte of a text on a disk changed (plain). -/
import Derived.Test.YtkkikhbenhkfcaaDoorBlob3
import Derived.Laws.BitsAllLaws
set_option linter.unusedVariables false
set_option linter.unusedSimpArgs false
namespace Go.Proofs.YtkkikhbenhkfcaaDoor.Blb
open Go.Proofs.YtkkikhbenhkfcaaDoor.AdM (sum bl A B A_one A_lt)
open Go.RowKit Go.Proofs.YtkkikhbenhkfcaaDoor.CdM Go.Proofs.YtkkikhbenhkfcaaDoor.Dk
theorem sum_set (s t : ByteArray) (c : Nat) (y : UInt8) (hc : c < s.size) (ht : t.data.toList = s.data.toList.set c y) (hy : y ≠ s.data.toList.getD c 0) : sum t ≠ sum s := by
  have hs := sl_length s
  intro he
  have h1 : A (bl t) = A (bl s) := by
    unfold sum at he
    have a1 := A_lt (bl t)
    have a2 := A_lt (bl s)
    omega
  have key : ∀ (L : List UInt8) (z : UInt8), L = s.data.toList.set c z → (L.map fun c => ((c.toNat : Nat) : Int)) = (bl s).take c ++ ((z.toNat : Nat) : Int) :: (bl s).drop (c + 1) := by
    intro L z hL
    rw [hL, List.set_eq_take_append_cons_drop, if_pos (by omega), List.map_append, List.map_cons, List.map_take, List.map_drop]
    rfl
  have e1 : bl s = (bl s).take c ++ ((s.data.toList.getD c 0).toNat : Int) :: (bl s).drop (c + 1) := key _ _ (by
    rw [List.getD_eq_getElem?_getD, List.getElem?_eq_getElem (by omega)]
    exact (List.set_getElem_self (by omega)).symm)
  have e2 : bl t = (bl s).take c ++ (y.toNat : Int) :: (bl s).drop (c + 1) := key _ _ ht
  rw [e2] at h1
  have h1 := h1.trans (congrArg A e1)
  have l1 := y.toNat_lt
  have l2 := (s.data.toList.getD c 0).toNat_lt
  have := (A_one _ _ _ _ (by omega) (by omega)).1 h1
  apply hy
  apply UInt8.toNat_inj.1
  omega
theorem gs_one (d : Dsk) (x : Int) (n c : Nat) (s t : ByteArray) (y : UInt8) (hn : s.size ≤ n * 64) (hc : c < s.size) (h : ∀ i : Nat, i < n → i ≠ c / 64 → rd d (x + (i : Int)) = pgOf s i)
    (h2 : (rd d (x + ((c / 64 : Nat) : Int))).1 = (pgOf s (c / 64)).1.set (c % 64) y) (ht : t.data.toList = s.data.toList.set c y) : strOfNums ((gs d x n).take s.size) = t := by
  have e : (gs d x n).take s.size = t.data.toList.map fun b => (b.toNat : Int) := by
    apply List.ext_getElem?
    intro q
    have hs := sl_length s
    rw [List.getElem?_take, List.getElem?_map, ht]
    by_cases hq : q < s.size
    · rw [if_pos hq, gs_get d x n q (by omega), List.getElem?_set]
      by_cases hqc : q = c
      · rw [hqc, h2, if_pos rfl, if_pos (by omega), List.getD_eq_getElem?_getD, List.getElem?_set_self (by rw [(pgOf s (c / 64)).2]; omega)]
        rfl
      · rw [if_neg (fun e => hqc e.symm)]
        by_cases hi : q / 64 = c / 64
        · rw [hi, h2, List.getD_eq_getElem?_getD, List.getElem?_set_ne (by omega), ← hi, pg_get _ _ _ (by omega), show q / 64 * 64 + q % 64 = q by omega, List.getD_eq_getElem?_getD, List.getElem?_eq_getElem (by omega)]
          rfl
        · rw [h _ (by omega) hi, List.getD_eq_getElem?_getD, pg_get _ _ _ (by omega), show q / 64 * 64 + q % 64 = q by omega, List.getD_eq_getElem?_getD, List.getElem?_eq_getElem (by omega)]
          rfl
    · rw [if_neg hq, List.getElem?_eq_none (by rw [List.length_set]; omega)]
      rfl
  rw [e]
  unfold strOfNums
  apply ByteArray.ext
  apply Array.toList_inj.1
  have e2 : ((fun n : Int => UInt8.ofNat n.toNat) ∘ fun b : UInt8 => ((b.toNat : Nat) : Int)) = id := by funext b; simp
  simp [e2]
/-- a sector with one byte changed -/
def pset (p : Pg) (j : Nat) (y : UInt8) : Pg := ⟨p.1.set j y, by rw [List.length_set, p.2]⟩
theorem pa_set (p : Pg) (j : Nat) (y : UInt8) : (pa p).setIfInBounds j (.int .u8 (y.toNat : Int)) = pa (pset p j y) := by
  apply Array.toList_inj.1
  unfold pa pset
  simp [List.map_set, Go.Extern.Stop.cell]
end Go.Proofs.YtkkikhbenhkfcaaDoor.Blb
