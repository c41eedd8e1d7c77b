/- The document's sum: it is the text's. -/
import Derived.Test.YtabhfopmblaohaaDoorAdler
import Derived.Test.YtabhfopmblaohaaDoorErr1
import Derived.Lib.Hide
set_option linter.unusedVariables false
set_option linter.unusedSimpArgs false
namespace Go.Proofs.YtabhfopmblaohaaDoor.RSm
open Go.RowKit Go.Proofs.YtabhfopmblaohaaDoorW.PrintWords Go.Proofs.YtabhfopmblaohaaDoorW.PrintLast Go.Proofs.YtabhfopmblaohaaDoorW.PrintMore Go.Proofs.YtabhfopmblaohaaDoor.AdM
theorem take_bl (s : ByteArray) (i : Nat) (h : i < s.size) : (bl s).take (i + 1) = (bl s).take i ++ [(((s[i]'h).toNat : Nat) : Int)] := by
  have hl := bl_length s
  rw [List.take_succ_eq_append_getElem (by omega)]
  congr 2
  unfold bl
  rw [List.getElem_map, Array.getElem_toList]
  rfl
set_option maxHeartbeats 3000000 in
set_option maxRecDepth 100000 in
theorem refsum_c (s : ByteArray) (hs : s.size ≤ 30000) (w : World) : Calls Tryd.prog 35 #[.string s] w fun e w' => e = .returned (.int .u32 (sum s)) ∧ Below w.heap.size w w' := by
  go_enter Tryd.func35, Tryd.ntmps35
  go_wp2_with fail
  go_loopg [3, 4, 5] s.size (fun kq v0 v1 v2 wr => ∃ (i : Nat) (x y : Int), v0 = .int .i64 x ∧ v1 = .int .i64 y ∧ v2 = .int .i64 (i : Int) ∧ kq + i = s.size ∧ Hid (x = 1 + S ((bl s).take i)) ∧ Hid (y = (i : Int) + W ((bl s).take i)) ∧ 0 ≤ x ∧ x ≤ 256 * (i + 1) ∧ 0 ≤ y ∧ y ≤ 7680512 * (i + 1) ∧ Hid (Below w.heap.size w wr))
  case atStart => exact ⟨0, 1, 0, rfl, rfl, rfl, by omega, Lib.hid rfl, Lib.hid rfl, by omega, by omega, by omega, by omega, Lib.hid (Below.refl _ _)⟩
  case round =>
    obtain ⟨i, x, y, rfl, rfl, rfl, hk, HX, HY, hx0, hx1, hy0, hy1, HB⟩ := hrel
    cases gk with
    | zero =>
      have c1 : decide ((i : Int) < (s.size : Int)) = false := decide_eq_false (by omega)
      have c1' : decide (i < s.size) = false := decide_eq_false (by omega)
      have e1 : y.tmod 65521 = y % 65521 := Int.tmod_eq_emod_of_nonneg hy0
      have e2 : x.tmod 65521 = x % 65521 := Int.tmod_eq_emod_of_nonneg hx0
      obtain ⟨y1, hy1e⟩ : ∃ y1, y % 65521 = y1 := ⟨_, rfl⟩
      obtain ⟨x1, hx1e⟩ : ∃ x1, x % 65521 = x1 := ⟨_, rfl⟩
      rw [hy1e] at e1
      rw [hx1e] at e2
      have r1 : 0 ≤ y1 ∧ y1 < 65521 := by omega
      have r2 : 0 ≤ x1 ∧ x1 < 65521 := by omega
      have e3 : IntKind.u32.wrap y1 = y1 := by rw [IntKind.wrap_u32]; omega
      have e4 : IntKind.u32.wrap x1 = x1 := by rw [IntKind.wrap_u32]; omega
      have e5 : IntKind.u32.wrap (y1 * 65536) = y1 * 65536 := by rw [IntKind.wrap_u32]; omega
      have e6 : IntKind.u32.wrap (y1 * 65536 + x1) = y1 * 65536 + x1 := by rw [IntKind.wrap_u32]; omega
      have e7 : y1 % 4294967296 = y1 := by omega
      have e8 : x1 % 4294967296 = x1 := by omega
      have hi : i = s.size := by omega
      have hfin : y1 * 65536 + x1 = sum s := by
        have h1 := HX.out
        have h2 := HY.out
        rw [hi, List.take_of_length_le (by rw [bl_length]; exact Nat.le_refl _)] at h1 h2
        unfold sum A B
        rw [bl_length, ← h1, ← h2, hy1e, hx1e]
      have HF := Lib.hid hfin
      clear hfin hy1e hx1e hi hx0 hx1 hy0 hy1
      go_wp2_with fail
      go_ret
      exact ⟨by rw [HF.out]; rfl, HB.out⟩
    | succ k1 =>
      have hlt : i < s.size := by omega
      have c1 : decide ((i : Int) < (s.size : Int)) = true := decide_eq_true (by omega)
      have c1' : decide (i < s.size) = true := decide_eq_true hlt
      have p1 : (0 ≤ (i : Int)) = True := eq_true (by omega)
      have p2 : ((i : Int) < (s.size : Int)) = True := eq_true (by omega)
      have hbt := (s[i]'hlt).toNat_lt
      have hS : 1 + S ((bl s).take (i + 1)) = x + (((s[i]'hlt).toNat : Nat) : Int) := by
        rw [take_bl s i hlt, S_append, HX.out]; simp [S]; omega
      have hW : ((i + 1 : Nat) : Int) + W ((bl s).take (i + 1)) = y + (x + (((s[i]'hlt).toNat : Nat) : Int)) := by
        rw [take_bl s i hlt, W_append, HX.out, HY.out]; simp [W]; omega
      have HS := Lib.hid hS
      have HW := Lib.hid hW
      obtain ⟨q, hq⟩ : ∃ q : Nat, (s[i]'hlt).toNat = q := ⟨_, rfl⟩
      rw [hq] at HS HW hbt
      have hq' : wrap64 (((s[i]'hlt).toNat : Nat) : Int) = (q : Int) := by rw [hq]; unfold wrap64; omega
      have q1 : IntKind.i64.wrap (x + (q : Int)) = x + (q : Int) := IntWalk.i64_in _ (by omega)
      have q2 : IntKind.i64.wrap (y + (x + (q : Int))) = y + (x + (q : Int)) := IntWalk.i64_in _ (by omega)
      have q3 : IntKind.i64.wrap ((i : Int) + 1) = (i : Int) + 1 := IntWalk.i64_in _ (by omega)
      have HQ := Lib.hid hq
      clear hS hW hq
      go_wp2_with fail
      go_roundg k1
      case measure => exact Nat.lt_succ_self _
      case rel => exact ⟨i + 1, x + (q : Int), y + (x + (q : Int)), rfl, rfl, by simp, by omega, Lib.hid HS.out.symm, Lib.hid HW.out.symm, by omega, by omega, by omega, by omega, HB⟩
end Go.Proofs.YtabhfopmblaohaaDoor.RSm
