/- code.Reader's number: a number's bytes are read as the number; the good path alone. -/
import Derived.Test.YtnpndfcghfoofaaDoorCodeNum
import Derived.Test.YtnpndfcghfoofaaDoorErr1
import Derived.Deep.RegionHeld3
set_option linter.unusedVariables false
namespace Go.Proofs.YtnpndfcghfoofaaDoor.Rdr
open Go.RowKit Go.Proofs.YtnpndfcghfoofaaDoorW.PrintWords Go.Proofs.YtnpndfcghfoofaaDoorW.PrintLast Go.Proofs.YtnpndfcghfoofaaDoorW.PrintMore Go.Proofs.YtnpndfcghfoofaaDoor.CdM
theorem must_c (w : World) : Calls Tryd.prog 24 #[.bool true] w fun e w' => e = .returned (.tuple #[]) ∧ w' = w := by
  go_enter Tryd.func24, Tryd.ntmps24
  go_wp2
  go_end0
  exact ⟨rfl, rfl⟩
/-- the reader at block R: its bytes, and how many were read -/
def Has (w : World) (R : Nat) (s : ByteArray) (p : Nat) : Prop := w.heap[R]? = some (Obj.cells #[.string s, .int .i64 (p : Int)] 53 (0, 0))
/-- all but the reader is as it was -/
def But (w w' : World) (R : Nat) : Prop := Below R w w' ∧ KeepBut w w' R none
theorem Has.c0 {w : World} {R : Nat} {s : ByteArray} {p : Nat} (h : Has w R s p) : w.cell? ⟨R, 0, none⟩ = some (.string s) := Err.cell_of_blk h 0
theorem Has.c1 {w : World} {R : Nat} {s : ByteArray} {p : Nat} (h : Has w R s p) : w.cell? ⟨R, 1, none⟩ = some (.int .i64 (p : Int)) := Err.cell_of_blk h 1
theorem Has.on {w w' : World} {R : Nat} {s : ByteArray} {p : Nat} (h : Has w R s p) (e : w'.heap = w.heap) : Has w' R s p := by
  unfold Has at h ⊢
  rw [e]; exact h
theorem Has.fz {w : World} {R : Nat} {s : ByteArray} {p : Nat} (h : Has w R s p) : w.frozen? ⟨R, 1, none⟩ = false := by
  unfold Has at h
  simp [World.frozen?, h]
theorem Has.set {w : World} {R : Nat} {s : ByteArray} {p : Nat} (h : Has w R s p) (q : Int) (p' : Nat) (hq : q = (p' : Int)) : Has (w.setCell ⟨R, 1, none⟩ (.int .i64 q)) R s p' := by
  subst hq
  unfold Has at h ⊢
  show (w.heap.modify R _)[R]? = _
  rw [Array.getElem?_modify]
  simp [h]
theorem But.refl (w : World) (R : Nat) : But w w R := ⟨Below.refl _ _, KeepBut.refl _ _ _⟩
theorem But.drew {w w' : World} {R : Nat} (h : But w w' R) : But w w'.drew R := ⟨h.1.drew, h.2⟩
theorem But.set {w w' : World} {R : Nat} (h : But w w' R) (j : Nat) (v : Value) : But w (w'.setCell ⟨R, j, none⟩ v) R := ⟨h.1.setCell (Nat.le_refl _) _, h.2.set_ _ _⟩
theorem or_step (n d i : Nat) (hn : n < 128 ^ i) (hd : n + d * 128 ^ i ≤ 4611686018427387904) :
    Go.bits .or .i64 (n : Int) (wrap64 ((d : Int) * 2 ^ (7 * i))) = ((n + d * 128 ^ i : Nat) : Int) := by
  have e : (2 : Int) ^ (7 * i) = ((128 ^ i : Nat) : Int) := by rw [Int.pow_mul]; simp
  have e3 : (d : Int) * ((128 ^ i : Nat) : Int) = ((d * 128 ^ i : Nat) : Int) := by push_cast; rfl
  have e2 : wrap64 ((d : Int) * 2 ^ (7 * i)) = ((d * 128 ^ i : Nat) : Int) := by
    rw [e, e3]
    unfold wrap64
    omega
  rw [e2, bits_join_low .i64 63 (by decide) wraps_i64 (7 * i) (n : Int) _ (by omega) (by rw [e]; omega) (by omega) (by omega) (by rw [e, ← e3]; exact Int.mul_emod_left _ _) (by omega)]
  omega
/-- the bytes of the number y stand in s from q on -/
def Stands (s : ByteArray) (q y : Nat) : Prop := ∀ j, j < (num y).length → ∃ h : q + j < s.size, (s[q + j]'h).toNat = (num y).getD j 0
theorem Stands.head {s : ByteArray} {q y : Nat} (h : Stands s q y) : ∃ h : q < s.size, (s[q]'h).toNat = (if y < 128 then y else y % 128 + 128) := by
  obtain ⟨h1, h2⟩ := h 0 (num_pos y)
  refine ⟨h1, ?_⟩
  simp only [Nat.add_zero] at h2
  rw [h2]
  by_cases hy : y < 128
  · rw [num_small hy, if_pos hy]; rfl
  · rw [num_big hy, if_neg hy]; rfl
theorem Stands.tail {s : ByteArray} {q y : Nat} (h : Stands s q y) (hy : ¬ y < 128) : Stands s (q + 1) (y / 128) := by
  intro j hj
  have hb := num_big hy
  obtain ⟨h1, h2⟩ := h (j + 1) (by rw [hb]; simpa using hj)
  have e : q + 1 + j = q + (j + 1) := by omega
  refine ⟨by omega, ?_⟩
  simp only [e]
  rw [h2, hb]
  simp
theorem pow_le (n y i x : Nat) (hv : n + y * 128 ^ i = x) (hx : x ≤ 4611686018427387904) (hy : 1 ≤ y) : i ≤ 8 := by
  rcases Nat.lt_or_ge 8 i with h | h
  · exfalso
    have h1 : 128 ^ 9 ≤ 128 ^ i := Nat.pow_le_pow_right (by omega) h
    have h2 : 1 * 128 ^ i ≤ y * 128 ^ i := Nat.mul_le_mul_right _ hy
    omega
  · exact h
theorem and127 (b : Nat) : Go.bits .and .i64 (b : Int) 127 = ((b % 128 : Nat) : Int) := by rw [i64_and127]; omega
set_option maxHeartbeats 4000000 in
set_option maxRecDepth 100000 in
theorem number_c (R : Nat) (s : ByteArray) (p x : Nat) (w : World) (h : Hid (Has w R s p)) (hst : Hid (Stands s p x)) (hs : s.size ≤ 4611686018427387904) (hx : x ≤ 4611686018427387904) :
    Calls Tryd.prog 23 #[.pointer (some ⟨R, 0, none⟩)] w fun ev w' => ev = .returned (.int .i64 (x : Int)) ∧ Has w' R s (p + (num x).length) ∧ But w w' R := by
  go_enter Tryd.func23, Tryd.ntmps23
  go_wp2_with fail
  go_loopg [3, 6] 9 (fun kq v0 v1 w' => ∃ (i y n q : Nat), v0 = .int .i64 (n : Int) ∧ v1 = .int .i64 (i : Int) ∧ kq + i = 9 ∧ Hid (n + y * 128 ^ i = x) ∧ Hid (n < 128 ^ i) ∧ Hid (i = 0 ∨ 1 ≤ y) ∧ Hid (q = p + i) ∧ Hid (Stands s q y) ∧ Hid (i + (num y).length = (num x).length) ∧ Hid (Has w' R s q) ∧ Hid (But w w' R))
  case atStart => exact ⟨0, x, 0, p, rfl, rfl, rfl, Lib.hid (by simp), Lib.hid (by simp), Lib.hid (.inl rfl), Lib.hid rfl, hst, Lib.hid (by simp), h, Lib.hid (But.refl _ _)⟩
  case round =>
    clear h hst
    obtain ⟨i, y, n, q, rfl, rfl, hk, HV, HN0, H0, HQ, HS, HL, H, HBt⟩ := hrel
    have hi8 : i ≤ 8 := by
      rcases H0.out with e | e
      · omega
      · exact pow_le n y i x HV.out hx e
    cases gk with
    | zero => exact absurd hk (by omega)
    | succ k1 =>
      have c1 : decide ((i : Int) < 9) = true := decide_eq_true (by omega)
      obtain ⟨hlt, hby⟩ := HS.out.head
      have h0 := H.out.c0
      have h1 := H.out.c1
      have hfz := H.out.fz
      have c2 : decide ((q : Int) < (s.size : Int)) = true := decide_eq_true (by omega)
      have c3 : decide (q < s.size) = true := decide_eq_true (by omega)
      have hq1 : IntKind.i64.wrap ((q : Int) + 1) = (q : Int) + 1 := IntWalk.i64_in _ (by omega)
      have q7 : IntKind.i64.wrap (7 * (i : Int)) = 7 * (i : Int) := IntWalk.i64_in _ (by omega)
      have HN := Lib.hid (show wr.drew.cell? ⟨R, 0, none⟩ = some (.string s) ∧ wr.drew.cell? ⟨R, 1, none⟩ = some (.int .i64 (q : Int)) from ⟨h0, h1⟩)
      have HN2 := Lib.hid (show wr.drew.drew.cell? ⟨R, 0, none⟩ = some (.string s) ∧ wr.drew.drew.cell? ⟨R, 1, none⟩ = some (.int .i64 (q : Int)) from ⟨h0, h1⟩)
      have p1 : (0 ≤ (q : Int)) = True := eq_true (by omega)
      have p2 : ((q : Int) < (s.size : Int)) = True := eq_true (by omega)
      by_cases hy : y < 128
      · rw [if_pos hy] at hby
        have b1 : wrap64 (((s[q]'hlt).toNat : Nat) : Int) = (y : Int) := by rw [hby]; unfold wrap64; omega
        have b2 := and127 y
        rw [Nat.mod_eq_of_lt hy] at b2
        have b3 := or_step n y i HN0.out (by have := HV.out; omega)
        rw [HV.out] at b3
        have b4 : decide ((y : Int) < 128) = true := decide_eq_true (by omega)
        have b4' : decide (y < 128) = true := decide_eq_true hy
        have b5 : decide ((x : Int) ≤ 4611686018427387904) = true := decide_eq_true (by omega)
        have b5' : decide (x ≤ 4611686018427387904) = true := decide_eq_true hx
        by_cases hy0 : 0 < y
        · have b6 : decide (0 < (y : Int)) = true := decide_eq_true (by omega)
          have b6' : decide (0 < y) = true := decide_eq_true hy0
          go_wp2_with fail
          go_region_held3 (fun w' => w'.cell? ⟨R, 0, none⟩ = some (.string s) ∧ w'.cell? ⟨R, 1, none⟩ = some (.int .i64 (q : Int)))
            (first | exact HN.out | assumption)
            (first | (go_at_call 24; refine (must_c _).mono ?_; rintro e w2 ⟨rfl, rfl⟩))
          go_wp2_with fail
          go_region_held3 (fun w' => w'.cell? ⟨R, 0, none⟩ = some (.string s) ∧ w'.cell? ⟨R, 1, none⟩ = some (.int .i64 (q : Int)))
            (first | exact HN2.out | assumption)
            (fail)
          go_wp2_with fail
          refine (must_c _).mono ?_
          rintro e w2 ⟨rfl, rfl⟩
          go_wp2_with fail
          go_ret
          exact ⟨rfl, Has.on (H.out.set _ (p + (num x).length) (by have e1 := HQ.out; have e2 := HL.out; rw [num_small hy] at e2; simp at e2; omega)) rfl, But.drew (But.drew (HBt.out.set _ _))⟩
        · have hi0 : i = 0 := by
            rcases H0.out with e | e
            · exact e
            · omega
          have b6 : decide (0 < (y : Int)) = false := decide_eq_false (by omega)
          have b6' : decide (0 < y) = false := decide_eq_false hy0
          have b7 : ((i : Int) == 0) = true := beq_iff_eq.2 (by omega)
          have b7' : (i == 0) = true := beq_iff_eq.2 hi0
          clear hi0
          go_wp2_with fail
          go_region_held3 (fun w' => w'.cell? ⟨R, 0, none⟩ = some (.string s) ∧ w'.cell? ⟨R, 1, none⟩ = some (.int .i64 (q : Int)))
            (first | exact HN.out | assumption)
            (first | (go_at_call 24; refine (must_c _).mono ?_; rintro e w2 ⟨rfl, rfl⟩))
          go_wp2_with fail
          go_region_held3 (fun w' => w'.cell? ⟨R, 0, none⟩ = some (.string s) ∧ w'.cell? ⟨R, 1, none⟩ = some (.int .i64 (q : Int)))
            (first | exact HN2.out | assumption)
            (fail)
          go_wp2_with fail
          refine (must_c _).mono ?_
          rintro e w2 ⟨rfl, rfl⟩
          go_wp2_with fail
          go_ret
          exact ⟨rfl, Has.on (H.out.set _ (p + (num x).length) (by have e1 := HQ.out; have e2 := HL.out; rw [num_small hy] at e2; simp at e2; omega)) rfl, But.drew (But.drew (HBt.out.set _ _))⟩
      · rw [if_neg hy] at hby
        have hd := HV.out
        have hdm : y = y % 128 + 128 * (y / 128) := by omega
        have hval : n + y % 128 * 128 ^ i + (y / 128) * 128 ^ (i + 1) = x := by
          rw [← hd, Nat.pow_succ]
          conv => rhs; rw [hdm]
          rw [Nat.add_mul]
          have : y / 128 * (128 ^ i * 128) = 128 * (y / 128) * 128 ^ i := by rw [Nat.mul_comm (128 ^ i) 128, ← Nat.mul_assoc, Nat.mul_comm (y / 128) 128]
          omega
        have hle : n + y % 128 * 128 ^ i ≤ x := by omega
        have hlt2 : n + y % 128 * 128 ^ i < 128 ^ (i + 1) := by
          have h1 := HN0.out
          have h2 : y % 128 * 128 ^ i ≤ 127 * 128 ^ i := Nat.mul_le_mul_right _ (by omega)
          rw [Nat.pow_succ]
          omega
        have b1 : wrap64 (((s[q]'hlt).toNat : Nat) : Int) = ((y % 128 + 128 : Nat) : Int) := by rw [hby]; unfold wrap64; omega
        obtain ⟨b, hb⟩ : ∃ b, b = y % 128 + 128 := ⟨_, rfl⟩
        rw [← hb] at b1
        have b2 : Go.bits .and .i64 (b : Int) 127 = ((y % 128 : Nat) : Int) := by rw [and127 b]; congr 1; omega
        obtain ⟨n2, hn2⟩ : ∃ n2, n2 = n + y % 128 * 128 ^ i := ⟨_, rfl⟩
        have b3 := or_step n (y % 128) i HN0.out (by omega)
        rw [← hn2] at b3 hval hlt2
        have b4 : decide ((b : Int) < 128) = false := decide_eq_false (by omega)
        have b4' : decide (b < 128) = false := decide_eq_false (by omega)
        have b8 : (b < 128) = False := eq_false (by omega)
        have b9 : ((b : Int) < 128) = False := eq_false (by omega)
        have b10 : decide (wrap64 (((s[q]'hlt).toNat : Nat) : Int) < 128) = false := decide_eq_false (by rw [b1]; omega)
        have b11 : ¬ wrap64 (((s[q]'hlt).toNat : Nat) : Int) < 128 := by rw [b1]; omega
        have q8 : IntKind.i64.wrap ((i : Int) + 1) = (i : Int) + 1 := IntWalk.i64_in _ (by omega)
        obtain ⟨m, hm⟩ : ∃ m, m = y % 128 := ⟨_, rfl⟩
        rw [← hm] at b2 b3
        have HVv := Lib.hid hval
        have HLt := Lib.hid hlt2
        have HY := Lib.hid hy
        clear hd hdm hval hle hlt2 hb hn2 hm hby hy
        go_wp2_with fail
        go_region_held3 (fun w' => w'.cell? ⟨R, 0, none⟩ = some (.string s) ∧ w'.cell? ⟨R, 1, none⟩ = some (.int .i64 (q : Int)))
          (first | exact HN.out | assumption)
          (first | (go_at_call 24; refine (must_c _).mono ?_; rintro e w2 ⟨rfl, rfl⟩))
        go_wp2_with fail
        go_region_held3 (fun w' => w'.cell? ⟨R, 0, none⟩ = some (.string s) ∧ w'.cell? ⟨R, 1, none⟩ = some (.int .i64 (q : Int)))
          (first | exact HN2.out | assumption)
          (fail)
        go_wp2_with fail
        go_roundg k1
        case measure => exact Nat.lt_succ_self _
        case rel =>
          exact ⟨i + 1, y / 128, n2, q + 1, rfl, by simp, by omega, HVv, HLt, Lib.hid (.inr (by have := HY.out; omega)), Lib.hid (by have := HQ.out; omega), Lib.hid (HS.out.tail HY.out), Lib.hid (by have e := HL.out; rw [num_big HY.out] at e; simp at e; omega), Lib.hid (Has.on (H.out.set _ (q + 1) (by omega)) rfl), Lib.hid (But.drew (But.drew (HBt.out.set _ _)))⟩
end Go.Proofs.YtnpndfcghfoofaaDoor.Rdr
