/- Words that the proof uses. -/
import Derived.Test.YtaodgnladjafoaaGreatDoorWordsV
import Derived.Test.YtaodgnladjafoaaGreatDoorErr01V
import Derived.Deep.RegionHeld3
import Derived.Defers
import Derived.Recover
set_option linter.unusedVariables false
namespace Go.Proofs.YtaodgnladjafoaaGreatDoor.Rdr
open Go.RowKit Go.Proofs.YtaodgnladjafoaaGreatDoorW.PrintWords Go.Proofs.YtaodgnladjafoaaGreatDoorW.PrintLast Go.Proofs.YtaodgnladjafoaaGreatDoorW.PrintMore Go.Proofs.YtaodgnladjafoaaGreatDoor.CdM
theorem must_c (w : World) : Calls Tryz.prog 97 #[.bool true] w fun e w' => e = .returned (.tuple #[]) ∧ w' = w := by
  go_enter Tryz.func97, Tryz.ntmps97
  go_wp2
  go_end0
  exact ⟨rfl, rfl⟩
def Has (w : World) (R : Nat) (s : ByteArray) (p : Nat) : Prop := w.heap[R]? = some (Obj.cells #[.string s, .int .i64 (p : Int)] 168 (0, 0))
def But (w w' : World) (R : Nat) : Prop := Below R w w' ∧ KeepBut w w' R none
theorem Has.c0 {w : World} {R : Nat} {s : ByteArray} {p : Nat} (h : Has w R s p) : w.cell? ⟨R, 0, none⟩ = some (.string s) := Err.cell_of_blk h 0
theorem Has.c1 {w : World} {R : Nat} {s : ByteArray} {p : Nat} (h : Has w R s p) : w.cell? ⟨R, 1, none⟩ = some (.int .i64 (p : Int)) := Err.cell_of_blk h 1
theorem Has.on {w w' : World} {R : Nat} {s : ByteArray} {p : Nat} (h : Has w R s p) (e : w'.heap = w.heap) : Has w' R s p := by
  unfold Has at h ⊢
  rw [e]; exact h
theorem Has.fz {w : World} {R : Nat} {s : ByteArray} {p : Nat} (h : Has w R s p) : w.frozen? ⟨R, 1, none⟩ = false := by
  unfold Has at h
  simp [World.frozen?, h]
theorem Has.set {w : World} {R : Nat} {s : ByteArray} {p : Nat} (h : Has w R s p) (q : Int) (p' : Nat) (hq : q = (p' : Int)) : Has (w.setCell ⟨R, 1, none⟩ (.int .i64 q)) R s p' := by
  subst hq
  unfold Has at h ⊢
  show (w.heap.modify R _)[R]? = _
  rw [Array.getElem?_modify]
  simp [h]
theorem But.refl (w : World) (R : Nat) : But w w R := ⟨Below.refl _ _, KeepBut.refl _ _ _⟩
theorem But.drew {w w' : World} {R : Nat} (h : But w w' R) : But w w'.drew R := ⟨h.1.drew, h.2⟩
theorem But.set {w w' : World} {R : Nat} (h : But w w' R) (j : Nat) (v : Value) : But w (w'.setCell ⟨R, j, none⟩ v) R := ⟨h.1.setCell (Nat.le_refl _) _, h.2.set_ _ _⟩
theorem or_step (n d i : Nat) (hn : n < 128 ^ i) (hd : n + d * 128 ^ i ≤ 4611686018427387904) :
    Go.bits .or .i64 (n : Int) (wrap64 ((d : Int) * 2 ^ (7 * i))) = ((n + d * 128 ^ i : Nat) : Int) := by
  have e : (2 : Int) ^ (7 * i) = ((128 ^ i : Nat) : Int) := by rw [Int.pow_mul]; simp
  have e3 : (d : Int) * ((128 ^ i : Nat) : Int) = ((d * 128 ^ i : Nat) : Int) := by push_cast; rfl
  have e2 : wrap64 ((d : Int) * 2 ^ (7 * i)) = ((d * 128 ^ i : Nat) : Int) := by
    rw [e, e3]
    unfold wrap64
    omega
  rw [e2, bits_join_low .i64 63 (by decide) wraps_i64 (7 * i) (n : Int) _ (by omega) (by rw [e]; omega) (by omega) (by omega) (by rw [e, ← e3]; exact Int.mul_emod_left _ _) (by omega)]
  omega
def Stands (s : ByteArray) (q y : Nat) : Prop := ∀ j, j < (num y).length → ∃ h : q + j < s.size, (s[q + j]'h).toNat = (num y).getD j 0
theorem Stands.head {s : ByteArray} {q y : Nat} (h : Stands s q y) : ∃ h : q < s.size, (s[q]'h).toNat = (if y < 128 then y else y % 128 + 128) := by
  obtain ⟨h1, h2⟩ := h 0 (num_pos y)
  refine ⟨h1, ?_⟩
  simp only [Nat.add_zero] at h2
  rw [h2]
  by_cases hy : y < 128
  · rw [num_small hy, if_pos hy]; rfl
  · rw [num_big hy, if_neg hy]; rfl
theorem Stands.tail {s : ByteArray} {q y : Nat} (h : Stands s q y) (hy : ¬ y < 128) : Stands s (q + 1) (y / 128) := by
  intro j hj
  have hb := num_big hy
  obtain ⟨h1, h2⟩ := h (j + 1) (by rw [hb]; simpa using hj)
  have e : q + 1 + j = q + (j + 1) := by omega
  refine ⟨by omega, ?_⟩
  simp only [e]
  rw [h2, hb]
  simp
theorem pow_le (n y i x : Nat) (hv : n + y * 128 ^ i = x) (hx : x ≤ 4611686018427387904) (hy : 1 ≤ y) : i ≤ 8 := by
  rcases Nat.lt_or_ge 8 i with h | h
  · exfalso
    have h1 : 128 ^ 9 ≤ 128 ^ i := Nat.pow_le_pow_right (by omega) h
    have h2 : 1 * 128 ^ i ≤ y * 128 ^ i := Nat.mul_le_mul_right _ hy
    omega
  · exact h
theorem and127 (b : Nat) : Go.bits .and .i64 (b : Int) 127 = ((b % 128 : Nat) : Int) := by rw [i64_and127]; omega
set_option maxHeartbeats 4000000 in
set_option maxRecDepth 100000 in
theorem number_c (R : Nat) (s : ByteArray) (p x : Nat) (w : World) (h : Hid (Has w R s p)) (hst : Hid (Stands s p x)) (hs : s.size ≤ 4611686018427387904) (hx : x ≤ 4611686018427387904) :
    Calls Tryz.prog 96 #[.pointer (some ⟨R, 0, none⟩)] w fun ev w' => ev = .returned (.int .i64 (x : Int)) ∧ Has w' R s (p + (num x).length) ∧ But w w' R := by
  go_enter Tryz.func96, Tryz.ntmps96
  go_wp2_with fail
  go_loopg [3, 6] 9 (fun kq v0 v1 w' => ∃ (i y n q : Nat), v0 = .int .i64 (n : Int) ∧ v1 = .int .i64 (i : Int) ∧ kq + i = 9 ∧ Hid (n + y * 128 ^ i = x) ∧ Hid (n < 128 ^ i) ∧ Hid (i = 0 ∨ 1 ≤ y) ∧ Hid (q = p + i) ∧ Hid (Stands s q y) ∧ Hid (i + (num y).length = (num x).length) ∧ Hid (Has w' R s q) ∧ Hid (But w w' R))
  case atStart => exact ⟨0, x, 0, p, rfl, rfl, rfl, Lib.hid (by simp), Lib.hid (by simp), Lib.hid (.inl rfl), Lib.hid rfl, hst, Lib.hid (by simp), h, Lib.hid (But.refl _ _)⟩
  case round =>
    clear h hst
    obtain ⟨i, y, n, q, rfl, rfl, hk, HV, HN0, H0, HQ, HS, HL, H, HBt⟩ := hrel
    have hi8 : i ≤ 8 := by
      rcases H0.out with e | e
      · omega
      · exact pow_le n y i x HV.out hx e
    cases gk with
    | zero => exact absurd hk (by omega)
    | succ k1 =>
      have c1 : decide ((i : Int) < 9) = true := decide_eq_true (by omega)
      obtain ⟨hlt, hby⟩ := HS.out.head
      have h0 := H.out.c0
      have h1 := H.out.c1
      have hfz := H.out.fz
      have c2 : decide ((q : Int) < (s.size : Int)) = true := decide_eq_true (by omega)
      have c3 : decide (q < s.size) = true := decide_eq_true (by omega)
      have hq1 : IntKind.i64.wrap ((q : Int) + 1) = (q : Int) + 1 := IntWalk.i64_in _ (by omega)
      have q7 : IntKind.i64.wrap (7 * (i : Int)) = 7 * (i : Int) := IntWalk.i64_in _ (by omega)
      have HN := Lib.hid (show wr.drew.cell? ⟨R, 0, none⟩ = some (.string s) ∧ wr.drew.cell? ⟨R, 1, none⟩ = some (.int .i64 (q : Int)) from ⟨h0, h1⟩)
      have HN2 := Lib.hid (show wr.drew.drew.cell? ⟨R, 0, none⟩ = some (.string s) ∧ wr.drew.drew.cell? ⟨R, 1, none⟩ = some (.int .i64 (q : Int)) from ⟨h0, h1⟩)
      have p1 : (0 ≤ (q : Int)) = True := eq_true (by omega)
      have p2 : ((q : Int) < (s.size : Int)) = True := eq_true (by omega)
      by_cases hy : y < 128
      · rw [if_pos hy] at hby
        have b1 : wrap64 (((s[q]'hlt).toNat : Nat) : Int) = (y : Int) := by rw [hby]; unfold wrap64; omega
        have b2 := and127 y
        rw [Nat.mod_eq_of_lt hy] at b2
        have b3 := or_step n y i HN0.out (by have := HV.out; omega)
        rw [HV.out] at b3
        have b4 : decide ((y : Int) < 128) = true := decide_eq_true (by omega)
        have b4' : decide (y < 128) = true := decide_eq_true hy
        have b5 : decide ((x : Int) ≤ 4611686018427387904) = true := decide_eq_true (by omega)
        have b5' : decide (x ≤ 4611686018427387904) = true := decide_eq_true hx
        by_cases hy0 : 0 < y
        · have b6 : decide (0 < (y : Int)) = true := decide_eq_true (by omega)
          have b6' : decide (0 < y) = true := decide_eq_true hy0
          go_wp2_with fail
          go_region_held3 (fun w' => w'.cell? ⟨R, 0, none⟩ = some (.string s) ∧ w'.cell? ⟨R, 1, none⟩ = some (.int .i64 (q : Int)))
            (first | exact HN.out | assumption)
            (first | (go_at_call 97; refine (must_c _).mono ?_; rintro e w2 ⟨rfl, rfl⟩))
          go_wp2_with fail
          go_region_held3 (fun w' => w'.cell? ⟨R, 0, none⟩ = some (.string s) ∧ w'.cell? ⟨R, 1, none⟩ = some (.int .i64 (q : Int)))
            (first | exact HN2.out | assumption)
            (fail)
          go_wp2_with fail
          refine (must_c _).mono ?_
          rintro e w2 ⟨rfl, rfl⟩
          go_wp2_with fail
          go_ret
          exact ⟨rfl, Has.on (H.out.set _ (p + (num x).length) (by have e1 := HQ.out; have e2 := HL.out; rw [num_small hy] at e2; simp at e2; omega)) rfl, But.drew (But.drew (HBt.out.set _ _))⟩
        · have hi0 : i = 0 := by
            rcases H0.out with e | e
            · exact e
            · omega
          have b6 : decide (0 < (y : Int)) = false := decide_eq_false (by omega)
          have b6' : decide (0 < y) = false := decide_eq_false hy0
          have b7 : ((i : Int) == 0) = true := beq_iff_eq.2 (by omega)
          have b7' : (i == 0) = true := beq_iff_eq.2 hi0
          clear hi0
          go_wp2_with fail
          go_region_held3 (fun w' => w'.cell? ⟨R, 0, none⟩ = some (.string s) ∧ w'.cell? ⟨R, 1, none⟩ = some (.int .i64 (q : Int)))
            (first | exact HN.out | assumption)
            (first | (go_at_call 97; refine (must_c _).mono ?_; rintro e w2 ⟨rfl, rfl⟩))
          go_wp2_with fail
          go_region_held3 (fun w' => w'.cell? ⟨R, 0, none⟩ = some (.string s) ∧ w'.cell? ⟨R, 1, none⟩ = some (.int .i64 (q : Int)))
            (first | exact HN2.out | assumption)
            (fail)
          go_wp2_with fail
          refine (must_c _).mono ?_
          rintro e w2 ⟨rfl, rfl⟩
          go_wp2_with fail
          go_ret
          exact ⟨rfl, Has.on (H.out.set _ (p + (num x).length) (by have e1 := HQ.out; have e2 := HL.out; rw [num_small hy] at e2; simp at e2; omega)) rfl, But.drew (But.drew (HBt.out.set _ _))⟩
      · rw [if_neg hy] at hby
        have hd := HV.out
        have hdm : y = y % 128 + 128 * (y / 128) := by omega
        have hval : n + y % 128 * 128 ^ i + (y / 128) * 128 ^ (i + 1) = x := by
          rw [← hd, Nat.pow_succ]
          conv => rhs; rw [hdm]
          rw [Nat.add_mul]
          have : y / 128 * (128 ^ i * 128) = 128 * (y / 128) * 128 ^ i := by rw [Nat.mul_comm (128 ^ i) 128, ← Nat.mul_assoc, Nat.mul_comm (y / 128) 128]
          omega
        have hle : n + y % 128 * 128 ^ i ≤ x := by omega
        have hlt2 : n + y % 128 * 128 ^ i < 128 ^ (i + 1) := by
          have h1 := HN0.out
          have h2 : y % 128 * 128 ^ i ≤ 127 * 128 ^ i := Nat.mul_le_mul_right _ (by omega)
          rw [Nat.pow_succ]
          omega
        have b1 : wrap64 (((s[q]'hlt).toNat : Nat) : Int) = ((y % 128 + 128 : Nat) : Int) := by rw [hby]; unfold wrap64; omega
        obtain ⟨b, hb⟩ : ∃ b, b = y % 128 + 128 := ⟨_, rfl⟩
        rw [← hb] at b1
        have b2 : Go.bits .and .i64 (b : Int) 127 = ((y % 128 : Nat) : Int) := by rw [and127 b]; congr 1; omega
        obtain ⟨n2, hn2⟩ : ∃ n2, n2 = n + y % 128 * 128 ^ i := ⟨_, rfl⟩
        have b3 := or_step n (y % 128) i HN0.out (by omega)
        rw [← hn2] at b3 hval hlt2
        have b4 : decide ((b : Int) < 128) = false := decide_eq_false (by omega)
        have b4' : decide (b < 128) = false := decide_eq_false (by omega)
        have b8 : (b < 128) = False := eq_false (by omega)
        have b9 : ((b : Int) < 128) = False := eq_false (by omega)
        have b10 : decide (wrap64 (((s[q]'hlt).toNat : Nat) : Int) < 128) = false := decide_eq_false (by rw [b1]; omega)
        have b11 : ¬ wrap64 (((s[q]'hlt).toNat : Nat) : Int) < 128 := by rw [b1]; omega
        have q8 : IntKind.i64.wrap ((i : Int) + 1) = (i : Int) + 1 := IntWalk.i64_in _ (by omega)
        obtain ⟨m, hm⟩ : ∃ m, m = y % 128 := ⟨_, rfl⟩
        rw [← hm] at b2 b3
        have HVv := Lib.hid hval
        have HLt := Lib.hid hlt2
        have HY := Lib.hid hy
        clear hd hdm hval hle hlt2 hb hn2 hm hby hy
        go_wp2_with fail
        go_region_held3 (fun w' => w'.cell? ⟨R, 0, none⟩ = some (.string s) ∧ w'.cell? ⟨R, 1, none⟩ = some (.int .i64 (q : Int)))
          (first | exact HN.out | assumption)
          (first | (go_at_call 97; refine (must_c _).mono ?_; rintro e w2 ⟨rfl, rfl⟩))
        go_wp2_with fail
        go_region_held3 (fun w' => w'.cell? ⟨R, 0, none⟩ = some (.string s) ∧ w'.cell? ⟨R, 1, none⟩ = some (.int .i64 (q : Int)))
          (first | exact HN2.out | assumption)
          (fail)
        go_wp2_with fail
        go_roundg k1
        case measure => exact Nat.lt_succ_self _
        case rel =>
          exact ⟨i + 1, y / 128, n2, q + 1, rfl, by simp, by omega, HVv, HLt, Lib.hid (.inr (by have := HY.out; omega)), Lib.hid (by have := HQ.out; omega), Lib.hid (HS.out.tail HY.out), Lib.hid (by have e := HL.out; rw [num_big HY.out] at e; simp at e; omega), Lib.hid (Has.on (H.out.set _ (q + 1) (by omega)) rfl), Lib.hid (But.drew (But.drew (HBt.out.set _ _)))⟩
end Go.Proofs.YtaodgnladjafoaaGreatDoor.Rdr
namespace Go.Proofs.YtaodgnladjafoaaGreatDoor.Rdr
open Go.RowKit Go.Proofs.YtaodgnladjafoaaGreatDoorW.PrintWords Go.Proofs.YtaodgnladjafoaaGreatDoorW.PrintLast Go.Proofs.YtaodgnladjafoaaGreatDoorW.PrintMore Go.Proofs.YtaodgnladjafoaaGreatDoor.CdM
theorem new_c (s : ByteArray) (w : World) : Calls Tryz.prog 72 #[.string s] w fun ev w' => ev = .returned (.pointer (some ⟨w.heap.size, 0, none⟩)) ∧ Has w' w.heap.size s 0 ∧ Below w.heap.size w w' := by
  go_enter Tryz.func72, Tryz.ntmps72
  go_wp2
  go_ret
  exact ⟨rfl, by unfold Has; exact Go.Deep.blk_alloc_new _ _, (Below.refl _ _).alloc (Nat.le_refl _) _⟩
set_option maxHeartbeats 2000000 in
theorem left_c (R : Nat) (s : ByteArray) (p : Nat) (w : World) (h : Hid (Has w R s p)) (hp : p ≤ s.size) (hs : s.size ≤ 4611686018427387904) :
    Calls Tryz.prog 74 #[.pointer (some ⟨R, 0, none⟩)] w fun ev w' => ev = .returned (.int .i64 ((s.size : Int) - (p : Int))) ∧ w'.heap = w.heap ∧ Below w.heap.size w w' := by
  have h0 := h.out.c0
  have h1 := h.out.c1
  have c1 : IntKind.i64.wrap ((s.size : Int) - (p : Int)) = (s.size : Int) - (p : Int) := IntWalk.i64_in _ (by omega)
  have HN := Lib.hid (show w.drew.cell? ⟨R, 0, none⟩ = some (.string s) ∧ w.drew.cell? ⟨R, 1, none⟩ = some (.int .i64 (p : Int)) from ⟨h0, h1⟩)
  go_enter Tryz.func74, Tryz.ntmps74
  go_wp2_with fail
  repeat (go_quiet (fail); try go_wp2)
  go_ret
  exact ⟨rfl, rfl, by repeat (first | exact Below.refl _ _ | apply pw_below_drewN | apply below_drew1)⟩
theorem assNil (xT : TypeId) (w : World) : (Instr.typeAssert .nilIface xT 74 true).run Tryz.prog w = .ok (.tuple #[.int .i64 0, .bool false]) w := by kernel_rfl
set_option maxRecDepth 100000 in
theorem catch_idle (a b c : Value) (w : World) :
    CallsD Tryz.prog 98 #[a, b, c] .returning w fun e u' w' => e = .returned (.tuple #[]) ∧ u' = .returning ∧ w' = w := by
  have hta := assNil
  refine callsD_of_wpS Tryz.func98 rfl fun c₀ cs hu => ?_
  apply wpS_seq
  apply wpS_region
  simp [wpOpsS, go_sem, recoverD, hu, Tryz.ntmps98, Exit.thenS, hta]
  apply wpS_seq
  apply wpS_region
  simp [wpOpsS, go_sem, Exit.thenS]
  refine wpS_cond (t := false) (by simp [Act.eval, Array.replicate]) ?_
  simp only [Bool.false_eq_true, if_false]
  refine wpS_of_wp (wp_skip ?_)
  cases c₀
  simp_all [bodyPostS, results, Tryz.results98]
end Go.Proofs.YtaodgnladjafoaaGreatDoor.Rdr
namespace Go.Proofs.YtaodgnladjafoaaGreatDoor.Rdr
open Go.RowKit Go.Proofs.YtaodgnladjafoaaGreatDoorW.PrintWords Go.Proofs.YtaodgnladjafoaaGreatDoorW.PrintLast Go.Proofs.YtaodgnladjafoaaGreatDoorW.PrintMore Go.Proofs.YtaodgnladjafoaaGreatDoor.CdM
theorem But.cell {w w' : World} {R : Nat} (h : But w w' R) {a : Addr} {v : Value} (hc : w.cell? a = some v) (hn : a.block ≠ R) : w'.cell? a = some v := by
  have hl := World.block_lt_of_cell? w a hc
  have hb := h.2.2 a.block hl hn (by simp)
  rw [← hc]; simp [World.cell?, hb]
theorem But.frozen {w w' : World} {R : Nat} (h : But w w' R) {a : Addr} {v : Value} (hc : w.cell? a = some v) (hf : w.frozen? a = false) (hn : a.block ≠ R) : w'.frozen? a = false := by
  have hl := World.block_lt_of_cell? w a hc
  have hb := h.2.2 a.block hl hn (by simp)
  rw [← hf]; simp [World.frozen?, hb]
set_option maxHeartbeats 4000000 in
set_option maxRecDepth 100000 in
theorem num1_c (rc mc nc : Addr) (R : Nat) (s : ByteArray) (p x : Nat) (most old : Int) (w : World) (hr : Hid (w.cell? rc = some (.pointer (some ⟨R, 0, none⟩)))) (hm : Hid (w.cell? mc = some (.int .i64 most))) (hn : Hid (w.cell? nc = some (.int .i64 old))) (hf : Hid (w.frozen? nc = false))
    (nr : rc.block ≠ R) (nm : mc.block ≠ R) (nn : nc.block ≠ R) (h : Hid (Has w R s p)) (hst : Hid (Stands s p x)) (hs : s.size ≤ 4611686018427387904) (hx : x ≤ 4611686018427387904) (hxm : (x : Int) ≤ most) :
    Calls Tryz.prog 95 #[.pointer (some rc), .pointer (some mc), .pointer (some nc)] w fun ev w' => ev = .returned (.tuple #[]) ∧ ∃ w1, But w w1 R ∧ Has w1 R s (p + (num x).length) ∧ w' = w1.setCell nc (.int .i64 (x : Int)) := by
  have hr' := hr.out
  have c1 : decide ((x : Int) ≤ most) = true := decide_eq_true hxm
  go_enter Tryz.func95, Tryz.ntmps95
  go_wp2_with fail
  refine (number_c R s p x _ h hst hs hx).mono ?_
  rintro e w1 ⟨rfl, hh, hb⟩
  have hm1 := hb.cell hm.out nm
  have hn1 := hb.cell hn.out nn
  have hf1 := hb.frozen hn.out hf.out nn
  have HH := Lib.hid hh
  have HB := Lib.hid hb
  clear hh hb
  go_wp2_with fail
  refine (must_c _).mono ?_
  rintro e w2 ⟨rfl, rfl⟩
  go_wp2_with fail
  go_end0
  exact ⟨rfl, _, HB.out, HH.out, rfl⟩
end Go.Proofs.YtaodgnladjafoaaGreatDoor.Rdr
namespace Go.Proofs.YtaodgnladjafoaaGreatDoor.Rdr
open Go.RowKit Go.Proofs.YtaodgnladjafoaaGreatDoorW.PrintWords Go.Proofs.YtaodgnladjafoaaGreatDoorW.PrintLast Go.Proofs.YtaodgnladjafoaaGreatDoorW.PrintMore Go.Proofs.YtaodgnladjafoaaGreatDoor.CdM Go.Proofs.YtaodgnladjafoaaGreatDoor.Md
theorem But.mod {w w' : World} {R : Nat} (h : But w w' R) : Mod (· = R) w w' := ⟨h.1.os, h.1.tape, h.1.output, h.2.1, fun i hi hs => h.2.2 i hi hs (by simp)⟩
theorem Has.mod {w w' : World} {R : Nat} {s : ByteArray} {p : Nat} {S : Nat → Prop} (h : Has w R s p) (k : Mod S w w') (hn : ¬ S R) : Has w' R s p := k.blk h hn
set_option maxHeartbeats 4000000 in
set_option maxRecDepth 100000 in
theorem safe_any (F : Nat) (caps : Array Value) (R : Nat) (s : ByteArray) (p p' : Nat) (nc : Addr) (v : Value) (w : World) (h : Hid (Has w R s p)) (hnl : nc.block < w.heap.size) (nn : nc.block ≠ R)
    (hcf : ∀ w : World, (callFunc F caps).run Tryz.prog w = .ok (.enter F caps) w) (hF : ∀ w3, Below w.heap.size w w3 → Calls Tryz.prog F caps w3 fun ev w' => ev = .returned (.tuple #[]) ∧ Mod (fun i => i = R ∨ i = nc.block) w3 w' ∧ Has w' R s p' ∧ w'.cell? nc = some v) :
    Calls Tryz.prog 94 #[.pointer (some ⟨R, 0, none⟩), .func (.func F) #[] caps] w fun ev w' => ev = .returned .nilIface ∧ Mod (fun i => i = R ∨ i = nc.block) w w' ∧ Has w' R s p' ∧ w'.cell? nc = some v := by
  have hmf : ∀ (fn : Fn) (first cap : Array Value) (w : World), (Instr.makeFunc fn first cap).run Tryz.prog w = .ok (.func fn first cap) w := fun _ _ _ _ => rfl
  have hRl : R < w.heap.size := Err.lt_of_block h.out
  have hW : Below w.heap.size w ((w.alloc (.cells #[.pointer (some ⟨R, 0, none⟩)] 139)).alloc (.cells #[.nilIface] 26)) := ((Below.refl _ _).alloc (Nat.le_refl _) _).alloc (by simp) _
  have h1 := (hW.cell (p := ⟨R, 1, none⟩) hRl).trans h.out.c1
  clear hW
  go_enter_defers Tryz.func94, Tryz.ntmps94
  go_wp2_with fail
  have hW3 : Below w.heap.size w (((w.alloc (.cells #[.pointer (some ⟨R, 0, none⟩)] 139)).alloc (.cells #[.nilIface] 26)).alloc (.cells #[.int .i64 (p : Int)] 3)) := (((Below.refl _ _).alloc (Nat.le_refl _) _).alloc (by simp) _).alloc (by simp; omega) _
  have hE3 := Lib.hid (show (((w.alloc (.cells #[.pointer (some ⟨R, 0, none⟩)] 139)).alloc (.cells #[.nilIface] 26)).alloc (.cells #[.int .i64 (p : Int)] 3)).cell? ⟨w.heap.size + 1, 0, none⟩ = some .nilIface from by rw [World.cell?_alloc_lt _ _ _ (by simp)]; rw [World.cell?_alloc_at _ _ _ _ (by simp)]; rfl)
  have hF3 := Lib.hid (show (((w.alloc (.cells #[.pointer (some ⟨R, 0, none⟩)] 139)).alloc (.cells #[.nilIface] 26)).alloc (.cells #[.int .i64 (p : Int)] 3)).frozen? ⟨w.heap.size + 1, 0, none⟩ = false from by rw [World.frozen?_alloc_old _ _ _ (by simp)]; simp)
  have hM3 := Lib.hid (Mod.of_below (S := fun i => i = R ∨ i = nc.block) hW3 (Nat.le_refl _))
  refine (hF _ hW3).mono ?_
  rintro e w4 ⟨rfl, hb4, hh4, hv4⟩
  have he : w4.cell? ⟨w.heap.size + 1, 0, none⟩ = some .nilIface := hb4.cell hE3.out (by rintro (e | e) <;> simp at e <;> omega)
  have hfz : w4.frozen? ⟨w.heap.size + 1, 0, none⟩ = false := hb4.frozen hE3.out hF3.out (by rintro (e | e) <;> simp at e <;> omega)
  have hB := Lib.hid hb4
  have hH := Lib.hid hh4
  have hV := Lib.hid hv4
  clear hb4 hh4 hv4
  go_wp2_with fail
  refine leaves_cons (f := 98) (args := #[.pointer (some ⟨w.heap.size + 1 + 1, 0, none⟩), .pointer (some ⟨w.heap.size, 0, none⟩), .pointer (some ⟨w.heap.size + 1, 0, none⟩)]) (by simp) (by simp [go_sem]) ?_
  refine (catch_idle _ _ _ _).mono ?_
  rintro e u' w'' ⟨rfl, rfl, rfl⟩
  simp [Leaves, settle, results, Tryz.results94, go_sem, he]
  have hM4 := hM3.out.tr hB.out
  refine ⟨hM4.set _ _ (.inr (by simp)), hH.out.mod (Mod.set (S := (· = w.heap.size + 1)) (Mod.refl _ _) _ _ (.inl rfl)) (by omega), ?_⟩
  rw [World.cell?_setCell_other _ _ _ _ (by intro h; have := congrArg Addr.block h; simp at this; omega)]
  exact hV.out
end Go.Proofs.YtaodgnladjafoaaGreatDoor.Rdr
namespace Go.Proofs.YtaodgnladjafoaaGreatDoor.Rdr
open Go.RowKit Go.Proofs.YtaodgnladjafoaaGreatDoorW.PrintWords Go.Proofs.YtaodgnladjafoaaGreatDoorW.PrintLast Go.Proofs.YtaodgnladjafoaaGreatDoorW.PrintMore Go.Proofs.YtaodgnladjafoaaGreatDoor.CdM Go.Proofs.YtaodgnladjafoaaGreatDoor.Md
def W3 (w : World) (R : Nat) (most : Int) (v : Value) (t : TypeId) : World := ((w.alloc (.cells #[.pointer (some ⟨R, 0, none⟩)] 139)).alloc (.cells #[.int .i64 most] 3)).alloc (.cells #[v] t)
theorem w3_below (w : World) (R : Nat) (most : Int) (v : Value) (t : TypeId) : Below w.heap.size w (W3 w R most v t) := (((Below.refl _ _).alloc (Nat.le_refl _) _).alloc (by simp) _).alloc (by simp; omega) _
theorem w3_size (w : World) (R : Nat) (most : Int) (v : Value) (t : TypeId) : (W3 w R most v t).heap.size = w.heap.size + 3 := by simp [W3]
theorem w3_r (w : World) (R : Nat) (most : Int) (v : Value) (t : TypeId) : (W3 w R most v t).cell? ⟨w.heap.size, 0, none⟩ = some (.pointer (some ⟨R, 0, none⟩)) := by
  unfold W3; rw [World.cell?_alloc_lt _ _ _ (by simp; omega), World.cell?_alloc_lt _ _ _ (by simp), World.cell?_alloc_at _ _ _ _ (by simp)]; rfl
theorem w3_m (w : World) (R : Nat) (most : Int) (v : Value) (t : TypeId) : (W3 w R most v t).cell? ⟨w.heap.size + 1, 0, none⟩ = some (.int .i64 most) := by
  unfold W3; rw [World.cell?_alloc_lt _ _ _ (by simp), World.cell?_alloc_at _ _ _ _ (by simp)]; rfl
theorem w3_n (w : World) (R : Nat) (most : Int) (v : Value) (t : TypeId) : (W3 w R most v t).cell? ⟨w.heap.size + 1 + 1, 0, none⟩ = some v := by
  unfold W3; rw [World.cell?_alloc_at _ _ _ _ (by simp)]; rfl
theorem w3_f (w : World) (R : Nat) (most : Int) (v : Value) (t : TypeId) : (W3 w R most v t).frozen? ⟨w.heap.size + 1 + 1, 0, none⟩ = false := by
  have e : (W3 w R most v t).heap[w.heap.size + 1 + 1]? = some (.cells #[v] t (0, 0)) := by
    have z := Go.Deep.blk_alloc_new ((w.alloc (.cells #[.pointer (some ⟨R, 0, none⟩)] 139)).alloc (.cells #[.int .i64 most] 3)) (.cells #[v] t)
    rw [show ((w.alloc (.cells #[.pointer (some ⟨R, 0, none⟩)] 139)).alloc (.cells #[.int .i64 most] 3)).heap.size = w.heap.size + 1 + 1 by simp] at z
    exact z
  unfold World.frozen?
  rw [e]; simp
set_option maxHeartbeats 4000000 in
set_option maxRecDepth 100000 in
theorem num_c (R : Nat) (s : ByteArray) (p x : Nat) (most : Int) (w : World) (h : Hid (Has w R s p)) (hst : Hid (Stands s p x)) (hs : s.size ≤ 4611686018427387904) (hx : x ≤ 4611686018427387904) (hxm : (x : Int) ≤ most) :
    Calls Tryz.prog 91 #[.pointer (some ⟨R, 0, none⟩), .int .i64 most] w fun ev w' => ev = .returned (.tuple #[.int .i64 (x : Int), .nilIface]) ∧ Mod (· = R) w w' ∧ Has w' R s (p + (num x).length) := by
  have hmf : ∀ (fn : Fn) (first cap : Array Value) (w : World), (Instr.makeFunc fn first cap).run Tryz.prog w = .ok (.func fn first cap) w := fun _ _ _ _ => rfl
  have hRl : R < w.heap.size := Err.lt_of_block h.out
  go_enter Tryz.func91, Tryz.ntmps91
  go_wp2_with fail
  have hH3 : Has (W3 w R most (.int .i64 0) 3) R s p := ((w3_below w R most _ _).block R hRl).trans h.out
  refine (safe_any 95 _ R s p (p + (num x).length) ⟨w.heap.size + 1 + 1, 0, none⟩ (.int .i64 (x : Int)) (W3 w R most (.int .i64 0) 3) (Lib.hid hH3) (by rw [w3_size]; simp) (by simp; omega) (fun _ => by kernel_rfl) ?_).mono ?_
  · intro w4 hb
    have e1 := hb.cell (p := ⟨w.heap.size, 0, none⟩) (by rw [w3_size]; simp)
    have e2 := hb.cell (p := ⟨w.heap.size + 1, 0, none⟩) (by rw [w3_size]; simp)
    have e3 := hb.cell (p := ⟨w.heap.size + 1 + 1, 0, none⟩) (by rw [w3_size]; simp)
    have e4 := hb.frozen (p := ⟨w.heap.size + 1 + 1, 0, none⟩) (by rw [w3_size]; simp)
    rw [w3_r] at e1; rw [w3_m] at e2; rw [w3_n] at e3; rw [w3_f] at e4
    refine (num1_c ⟨w.heap.size, 0, none⟩ ⟨w.heap.size + 1, 0, none⟩ ⟨w.heap.size + 1 + 1, 0, none⟩ R s p x most 0 w4 (Lib.hid e1) (Lib.hid e2) (Lib.hid e3) (Lib.hid e4) (by simp; omega) (by simp; omega) (by simp; omega) (Lib.hid ((hb.block R (by rw [w3_size]; omega)).trans hH3)) hst hs hx hxm).mono ?_
    rintro e w' ⟨rfl, w5, hb5, hh5, rfl⟩
    refine ⟨rfl, Mod.set (hb5.mod.mono (fun _ _ h => .inl h)) _ _ (.inl (.inr rfl)), hh5.mod (Mod.set (S := (· = w.heap.size + 1 + 1)) (Mod.refl _ _) _ _ (.inl rfl)) (by omega), ?_⟩
    exact World.cell?_setCell_same _ _ _ (hb5.cell e3 (by simp; omega))
  · rintro e w' ⟨rfl, hm, hh, hv⟩
    have HM := Lib.hid (Mod.trans (S := (· = R)) (Mod.of_below (w3_below w R most (.int .i64 0) 3) (Nat.le_refl _)) hm (by rintro i hi (e | e); exact e; exact absurd e (by show ¬ (i = w.heap.size + 1 + 1); omega)))
    have HH := Lib.hid hh
    clear hm hh hH3 h
    go_wp2_with fail
    repeat (go_quiet (fail); try go_wp2)
    go_ret2
    exact ⟨rfl, HM.out, HH.out⟩
end Go.Proofs.YtaodgnladjafoaaGreatDoor.Rdr
set_option linter.unusedSimpArgs false
namespace Go.Proofs.YtaodgnladjafoaaGreatDoor.Rdr
open Go.RowKit Go.Proofs.YtaodgnladjafoaaGreatDoorW.PrintWords Go.Proofs.YtaodgnladjafoaaGreatDoorW.PrintLast Go.Proofs.YtaodgnladjafoaaGreatDoorW.PrintMore Go.Proofs.YtaodgnladjafoaaGreatDoor.CdM Go.Proofs.YtaodgnladjafoaaGreatDoor.Md
abbrev formV : Value := .iface 74 (.int .i64 13)
theorem must_no (w : World) : Calls Tryz.prog 97 #[.bool false] w fun e w' => e = .panicked [{ v := formV, recovered := false }] ∧ w' = w := by
  go_enter Tryz.func97, Tryz.ntmps97
  go_wp2
  exact ⟨rfl, rfl, rfl⟩
theorem goesP_ {ops : Array Oper} {oi : Oper} {a : Act} {w : World} {K : Act → World → Prop} {Q : Exit → Act → World → Prop} {E : Prop} {f : FuncId} {fn : Func} {ar : Array Operand} {ts : Array TypeId} (hf : Tryz.prog.funcs[f]? = some fn) (hname : (fn.name == "runtime.NumGoroutine") = false) (hb : fn.body.isSome = true) (args : Array Value)
    (hw : Region.wanted oi (yielded ops a.tmps) = true) (hop : oi.op = .call { callee := .value (.func f), args := ar, argTypes := ts }) (hargs : ar.map a.eval = args)
    (h : Calls Tryz.prog f args w fun e w' => ∃ c, e = .panicked c ∧ Q (.panic c) a w') : if Region.wanted oi (yielded ops a.tmps) = true then Oper.wp Tryz.prog oi a w K Q else E := by
  rw [if_pos hw]
  have he := enters_ hf hname hb args w
  have hrun : (execOp a.eval oi).run Tryz.prog w = .ok (.enter f args) w := by
    unfold execOp
    simp [hop, resolve, Deferred.ofValue, invoke, Act.eval, hargs, he]
  unfold Oper.wp
  rw [hrun, Oper.upon_enter]
  refine h.mono fun e w' hh => ?_
  obtain ⟨c, rfl, hk⟩ := hh
  exact hk
def NoNum (s : ByteArray) (p : Nat) : Prop := ∀ y, y ≤ 4611686018427387904 → ¬ Stands s p y
theorem Stands.cons {s : ByteArray} {q b y : Nat} (hq : q < s.size) (hb : (s[q]'hq).toNat = b) (h1 : 128 ≤ b) (h : Stands s (q + 1) y) (hy : 1 ≤ y) : Stands s q (b - 128 + 128 * y) := by
  have hl : b < 256 := by have := (s[q]'hq).toNat_lt; omega
  have e := num_big (n := b - 128 + 128 * y) (by omega)
  rw [show (b - 128 + 128 * y) % 128 + 128 = b by omega, show (b - 128 + 128 * y) / 128 = y by omega] at e
  intro j hj
  rw [e] at hj ⊢
  rcases j with _ | j
  · exact ⟨hq, hb⟩
  · obtain ⟨h2, h3⟩ := h j (by simpa using hj)
    refine ⟨by omega, ?_⟩
    simp only [show q + (j + 1) = q + 1 + j by omega]
    rw [h3]; rfl
theorem Stands.one {s : ByteArray} {q b : Nat} (hq : q < s.size) (hb : (s[q]'hq).toNat = b) (h1 : b < 128) : Stands s q b := by
  intro j hj
  rw [num_small h1] at hj ⊢
  obtain rfl : j = 0 := by simpa using hj
  exact ⟨hq, hb⟩
def Acc (s : ByteArray) (p i n : Nat) : Prop := ∀ y, (i = 0 ∨ 1 ≤ y) → Stands s (p + i) y → Stands s p (n + y * 128 ^ i)
theorem Acc.zero (s : ByteArray) (p : Nat) : Acc s p 0 0 := by
  intro y _ h
  simpa using h
theorem Acc.more {s : ByteArray} {p i n b : Nat} (h : Acc s p i n) (hq : p + i < s.size) (hb : (s[p + i]'hq).toNat = b) (h1 : 128 ≤ b) : Acc s p (i + 1) (n + b % 128 * 128 ^ i) := by
  have hl : b < 256 := by have := (s[p + i]'hq).toNat_lt; omega
  intro y hy hs
  have hy1 : 1 ≤ y := by
    rcases hy with e | e
    · omega
    · exact e
  have e := h (b - 128 + 128 * y) (.inr (by omega)) (Stands.cons hq hb h1 (by rw [Nat.add_assoc]; exact hs) hy1)
  have e2 : n + (b - 128 + 128 * y) * 128 ^ i = n + b % 128 * 128 ^ i + y * 128 ^ (i + 1) := by
    rw [Nat.add_mul, Nat.pow_succ, show b % 128 = b - 128 by omega]
    have : 128 * y * 128 ^ i = y * (128 ^ i * 128) := by rw [Nat.mul_comm 128 y, Nat.mul_assoc, Nat.mul_comm 128]
    omega
  rw [← e2]; exact e
theorem or_step2 (n d i : Nat) (hn : n < 128 ^ i) (hd : n + d * 128 ^ i < 9223372036854775808) :
    Go.bits .or .i64 (n : Int) (wrap64 ((d : Int) * 2 ^ (7 * i))) = ((n + d * 128 ^ i : Nat) : Int) := by
  have e : (2 : Int) ^ (7 * i) = ((128 ^ i : Nat) : Int) := by rw [Int.pow_mul]; simp
  have e3 : (d : Int) * ((128 ^ i : Nat) : Int) = ((d * 128 ^ i : Nat) : Int) := by push_cast; rfl
  have e2 : wrap64 ((d : Int) * 2 ^ (7 * i)) = ((d * 128 ^ i : Nat) : Int) := by
    rw [e, e3]
    unfold wrap64
    omega
  rw [e2, bits_join_low .i64 63 (by decide) wraps_i64 (7 * i) (n : Int) _ (by omega) (by rw [e]; omega) (by omega) (by omega) (by rw [e, ← e3]; exact Int.mul_emod_left _ _) (by omega)]
  omega
theorem acc_lt (n m i : Nat) (hi : i ≤ 8) (hn : n < 128 ^ i) (hm : m < 128) : n + m * 128 ^ i < 128 ^ (i + 1) ∧ n + m * 128 ^ i < 9223372036854775808 := by
  have h1 : m * 128 ^ i ≤ 127 * 128 ^ i := Nat.mul_le_mul_right _ (by omega)
  have h2 : n + m * 128 ^ i < 128 ^ (i + 1) := by rw [Nat.pow_succ]; omega
  have h3 : 128 ^ (i + 1) ≤ 128 ^ 9 := Nat.pow_le_pow_right (by omega) (by omega)
  have h4 : (128 : Nat) ^ 9 = 9223372036854775808 := by decide
  exact ⟨h2, by omega⟩
set_option maxHeartbeats 8000000 in
set_option maxRecDepth 100000 in
theorem number_no (R : Nat) (s : ByteArray) (p : Nat) (w : World) (h : Hid (Has w R s p)) (hno : Hid (NoNum s p)) (hs : s.size ≤ 4611686018427387904) :
    Calls Tryz.prog 96 #[.pointer (some ⟨R, 0, none⟩)] w fun ev w' => ev = .panicked [{ v := formV, recovered := false }] ∧ (∃ q, Has w' R s q) ∧ But w w' R := by
  go_enter Tryz.func96, Tryz.ntmps96
  go_wp2_with fail
  go_loopg [3, 6] 9 (fun kq v0 v1 w' => ∃ (i n q : Nat), v0 = .int .i64 (n : Int) ∧ v1 = .int .i64 (i : Int) ∧ kq + i = 9 ∧ Hid (n < 128 ^ i) ∧ Hid (q = p + i) ∧ Hid (Acc s p i n) ∧ Hid (Has w' R s q) ∧ Hid (But w w' R))
  case atStart => exact ⟨0, 0, p, rfl, rfl, rfl, Lib.hid (by simp), Lib.hid rfl, Lib.hid (Acc.zero s p), h, Lib.hid (But.refl _ _)⟩
  case round =>
    clear h
    obtain ⟨i, n, q, rfl, rfl, hk, HN0, HQ, HA, H, HBt⟩ := hrel
    cases gk with
    | zero =>
      have c1 : decide ((i : Int) < 9) = false := decide_eq_false (by omega)
      have hpn : (Instr.panic formV).run Tryz.prog wr = .halt (.panic formV) wr := rfl
      go_wp2_with fail
      exact ⟨rfl, rfl, ⟨q, H.out⟩, HBt.out⟩
    | succ k1 =>
      have c1 : decide ((i : Int) < 9) = true := decide_eq_true (by omega)
      have h0 := H.out.c0
      have h1 := H.out.c1
      have hfz := H.out.fz
      have HN := Lib.hid (show wr.drew.cell? ⟨R, 0, none⟩ = some (.string s) ∧ wr.drew.cell? ⟨R, 1, none⟩ = some (.int .i64 (q : Int)) from ⟨h0, h1⟩)
      have HN2 := Lib.hid (show wr.drew.drew.cell? ⟨R, 0, none⟩ = some (.string s) ∧ wr.drew.drew.cell? ⟨R, 1, none⟩ = some (.int .i64 (q : Int)) from ⟨h0, h1⟩)
      by_cases hlt : q < s.size
      · have hi8 : i ≤ 8 := by omega
        have c2 : decide ((q : Int) < (s.size : Int)) = true := decide_eq_true (by omega)
        have c3 : decide (q < s.size) = true := decide_eq_true (by omega)
        have hq1 : IntKind.i64.wrap ((q : Int) + 1) = (q : Int) + 1 := IntWalk.i64_in _ (by omega)
        have q7 : IntKind.i64.wrap (7 * (i : Int)) = 7 * (i : Int) := IntWalk.i64_in _ (by omega)
        have p1 : (0 ≤ (q : Int)) = True := eq_true (by omega)
        have p2 : ((q : Int) < (s.size : Int)) = True := eq_true (by omega)
        obtain ⟨b, hb⟩ : ∃ b, (s[q]'hlt).toNat = b := ⟨_, rfl⟩
        have hbl : b < 256 := by have := (s[q]'hlt).toNat_lt; omega
        have b1 : wrap64 (((s[q]'hlt).toNat : Nat) : Int) = (b : Int) := by rw [hb]; unfold wrap64; omega
        have hal := acc_lt n (b % 128) i hi8 HN0.out (by omega)
        have b2 := and127 b
        have b3 := or_step2 n (b % 128) i HN0.out hal.2
        obtain ⟨n2, hn2⟩ : ∃ n2, n2 = n + b % 128 * 128 ^ i := ⟨_, rfl⟩
        rw [← hn2] at b3 hal
        by_cases hy : b < 128
        · have hbm : b % 128 = b := Nat.mod_eq_of_lt hy
          rw [hbm] at b2 b3
          have b4 : decide ((b : Int) < 128) = true := decide_eq_true (by omega)
          have b4' : decide (b < 128) = true := decide_eq_true hy
          have HStd := Lib.hid (show (i = 0 ∨ 1 ≤ b) → 4611686018427387904 < n2 from fun hc => by
            have hst : Stands s p (n + b * 128 ^ i) := HA.out b hc (by have e := HQ.out; subst e; exact Stands.one hlt hb hy)
            rw [hn2, hbm]
            rcases Nat.lt_or_ge 4611686018427387904 (n + b * 128 ^ i) with g | g
            · exact g
            · exact absurd hst (hno.out _ g))
          clear hb hn2 hbm
          by_cases hy0 : 0 < b
          · have b6 : decide (0 < (b : Int)) = true := decide_eq_true (by omega)
            have b6' : decide (0 < b) = true := decide_eq_true hy0
            have hgr := HStd.out (.inr hy0)
            have b5 : decide ((n2 : Int) ≤ 4611686018427387904) = false := decide_eq_false (by omega)
            have b5' : decide (n2 ≤ 4611686018427387904) = false := decide_eq_false (by omega)
            clear hgr
            go_wp2_with fail
            go_region_held3 (fun w' => w'.cell? ⟨R, 0, none⟩ = some (.string s) ∧ w'.cell? ⟨R, 1, none⟩ = some (.int .i64 (q : Int)))
              (first | exact HN.out | assumption)
              (first | (go_at_call 97; refine (must_c _).mono ?_; rintro e w2 ⟨rfl, rfl⟩))
            go_wp2_with fail
            go_region_held3 (fun w' => w'.cell? ⟨R, 0, none⟩ = some (.string s) ∧ w'.cell? ⟨R, 1, none⟩ = some (.int .i64 (q : Int)))
              (first | exact HN2.out | assumption)
              (fail)
            go_wp2_with fail
            refine (must_no _).mono ?_
            rintro e w2 ⟨rfl, rfl⟩
            exact ⟨rfl, rfl, ⟨q + 1, Has.on (H.out.set _ (q + 1) (by omega)) rfl⟩, But.drew (But.drew (HBt.out.set _ _))⟩
          · have b6 : decide (0 < (b : Int)) = false := decide_eq_false (by omega)
            have b6' : decide (0 < b) = false := decide_eq_false hy0
            have hi0 : ¬ i = 0 := fun e => by
              have := HStd.out (.inl e)
              have e2 := hal.2
              subst e
              have := hal.1
              simp at this
              omega
            have b7 : ((i : Int) == 0) = false := beq_eq_false_iff_ne.2 (by omega)
            have b7' : (i == 0) = false := beq_eq_false_iff_ne.2 hi0
            clear hi0
            go_wp2_with fail
            go_region_held3 (fun w' => w'.cell? ⟨R, 0, none⟩ = some (.string s) ∧ w'.cell? ⟨R, 1, none⟩ = some (.int .i64 (q : Int)))
              (first | exact HN.out | assumption)
              (first | (go_at_call 97; refine (must_c _).mono ?_; rintro e w2 ⟨rfl, rfl⟩))
            go_wp2_with fail
            go_region_held3 (fun w' => w'.cell? ⟨R, 0, none⟩ = some (.string s) ∧ w'.cell? ⟨R, 1, none⟩ = some (.int .i64 (q : Int)))
              (first | exact HN2.out | assumption)
              (fail)
            go_wp2_with fail
            refine (must_no _).mono ?_
            rintro e w2 ⟨rfl, rfl⟩
            exact ⟨rfl, rfl, ⟨q + 1, Has.on (H.out.set _ (q + 1) (by omega)) rfl⟩, But.drew (But.drew (HBt.out.set _ _))⟩
        · have b4 : decide ((b : Int) < 128) = false := decide_eq_false (by omega)
          have b4' : decide (b < 128) = false := decide_eq_false (by omega)
          have b8 : (b < 128) = False := eq_false (by omega)
          have b9 : ((b : Int) < 128) = False := eq_false (by omega)
          have b10 : decide (wrap64 (((s[q]'hlt).toNat : Nat) : Int) < 128) = false := decide_eq_false (by rw [b1]; omega)
          have b11 : ¬ wrap64 (((s[q]'hlt).toNat : Nat) : Int) < 128 := by rw [b1]; omega
          have q8 : IntKind.i64.wrap ((i : Int) + 1) = (i : Int) + 1 := IntWalk.i64_in _ (by omega)
          have HA2 := Lib.hid (show Acc s p (i + 1) n2 from by rw [hn2]; have e := HQ.out; subst e; exact HA.out.more hlt hb (Nat.le_of_not_lt hy))
          have HLt := Lib.hid hal.1
          obtain ⟨m, hm⟩ : ∃ m, m = b % 128 := ⟨_, rfl⟩
          rw [← hm] at b2 b3
          clear hal hb hn2 hm hy
          go_wp2_with fail
          go_region_held3 (fun w' => w'.cell? ⟨R, 0, none⟩ = some (.string s) ∧ w'.cell? ⟨R, 1, none⟩ = some (.int .i64 (q : Int)))
            (first | exact HN.out | assumption)
            (first | (go_at_call 97; refine (must_c _).mono ?_; rintro e w2 ⟨rfl, rfl⟩))
          go_wp2_with fail
          go_region_held3 (fun w' => w'.cell? ⟨R, 0, none⟩ = some (.string s) ∧ w'.cell? ⟨R, 1, none⟩ = some (.int .i64 (q : Int)))
            (first | exact HN2.out | assumption)
            (fail)
          go_wp2_with fail
          go_roundg k1
          case measure => exact Nat.lt_succ_self _
          case rel => exact ⟨i + 1, n2, q + 1, rfl, by simp, by omega, HLt, Lib.hid (by have := HQ.out; omega), HA2, Lib.hid (Has.on (H.out.set _ (q + 1) (by omega)) rfl), Lib.hid (But.drew (But.drew (HBt.out.set _ _)))⟩
      · have c2 : decide ((q : Int) < (s.size : Int)) = false := decide_eq_false (by omega)
        have c3 : decide (q < s.size) = false := decide_eq_false (by omega)
        go_wp2_with fail
        refine start_ (n := 11) (S := fun w' => w'.cell? ⟨R, 0, none⟩ = some (.string s) ∧ w'.cell? ⟨R, 1, none⟩ = some (.int .i64 (q : Int))) (ds := []) (bzz 11 0) (by kernel_rfl) rfl rfl ⟨HN.out.1, HN.out.2⟩ (fun hHeld => ?_)
        refine rpz 0 9 ?_ (bzz 11 1) rfl rfl ?_ ?_ ?_ ?_
        rotate_left
        · intro w'
          go_simp
          with_reducible rfl
        rotate_left
        · simp only [zaP, zsA, zsZ, zsS, i64_w, i32_w]
          rfl
        refine rpz 1 10 ?_ (bzz 11 3) rfl rfl ?_ ?_ ?_ ?_
        rotate_left
        · intro w'
          go_simp
          with_reducible rfl
        rotate_left
        · simp only [zaP, zsA, zsZ, zsS, i64_w, i32_w]
          rfl
        refine rpz 2 11 ?_ (bzz 11 7) rfl rfl ?_ ?_ ?_ ?_
        rotate_left
        · intro w'
          go_simp
          with_reducible rfl
        rotate_left
        · simp only [zaP, zsA, zsZ, zsS, i64_w, i32_w]
          rfl
        refine rpz 4 13 ?_ (bzz 11 23) rfl rfl ?_ ?_ ?_ ?_
        rotate_left
        · intro w'
          go_simp
          with_reducible rfl
        rotate_left
        · simp only [zaP, zsA, zsZ, zsS, i64_w, i32_w]
          rfl
        refine rpz 5 14 ?_ (bzz 11 55) rfl rfl ?_ ?_ ?_ ?_
        rotate_left
        · intro w'
          go_simp
          with_reducible rfl
        rotate_left
        · simp only [zaP, zsA, zsZ, zsS, i64_w, i32_w]
          rfl
        refine rpz 6 15 ?_ (bzz 11 119) rfl rfl ?_ ?_ ?_ ?_
        rotate_left
        · intro w'
          go_simp
          with_reducible rfl
        rotate_left
        · simp only [zaP, zsA, zsZ, zsS, i64_w, i32_w]
          rfl
        refine rtz 3 12 ?_ (bzz 11 127) rfl rfl hHeld ?_ ?_ ?_ ?_
        rotate_left
        · rintro w' ⟨s0, s1⟩
          go_simp
          with_reducible rfl
        rotate_left
        · simp only [zaP, zsA, zsZ, zsS, i64_w, i32_w]
          rfl
        refine rtz 7 16 ?_ (bzz 11 255) rfl rfl hHeld ?_ ?_ ?_ ?_
        rotate_left
        · rintro w' ⟨s0, s1⟩
          go_simp
          with_reducible rfl
        rotate_left
        · simp only [zaP, zsA, zsZ, zsS, i64_w, i32_w]
          rfl
        refine rpz 8 17 ?_ (bzz 11 511) rfl rfl ?_ ?_ ?_ ?_
        rotate_left
        · intro w'
          go_simp
          with_reducible rfl
        rotate_left
        · simp only [zaP, zsA, zsZ, zsS, i64_w, i32_w]
          rfl
        refine rpz 9 18 ?_ (bzz 11 1023) rfl rfl ?_ ?_ ?_ ?_
        rotate_left
        · intro w'
          go_simp
          with_reducible rfl
        rotate_left
        · simp only [zaP, zsA, zsZ, zsS, i64_w, i32_w]
          rfl
        refine roz 10 19 (bzz 11 2047) rfl rfl (fun K hK => ?_)
        refine goesP_ Tryz.func97 (by kernel_rfl) rfl #[.bool false] (by rfl) rfl (by simp only [List.map_toArray, List.map_cons, List.map_nil]; rfl) ?_
        with_reducible refine (must_no _).mono ?_
        rintro e w2 ⟨rfl, rfl⟩
        exact ⟨_, rfl, rfl, rfl, ⟨q, H.out⟩, HBt.out.drew⟩
end Go.Proofs.YtaodgnladjafoaaGreatDoor.Rdr
set_option linter.unusedSimpArgs false
namespace Go.Proofs.YtaodgnladjafoaaGreatDoor.Rdr
open Go.RowKit Go.Proofs.YtaodgnladjafoaaGreatDoorW.PrintWords Go.Proofs.YtaodgnladjafoaaGreatDoorW.PrintLast Go.Proofs.YtaodgnladjafoaaGreatDoorW.PrintMore Go.Proofs.YtaodgnladjafoaaGreatDoor.CdM Go.Proofs.YtaodgnladjafoaaGreatDoor.Md
open Go.Proofs.YtaodgnladjafoaaGreatDoor.Err (Laid IsErr code_nil Chain at_some at_nil)
def NoNumTo (s : ByteArray) (p : Nat) (most : Int) : Prop := ∀ y : Nat, y ≤ 4611686018427387904 → (y : Int) ≤ most → ¬ Stands s p y
set_option maxHeartbeats 4000000 in
set_option maxRecDepth 100000 in
theorem num1_no (rc mc nc : Addr) (R : Nat) (s : ByteArray) (p : Nat) (most old : Int) (w : World) (hr : Hid (w.cell? rc = some (.pointer (some ⟨R, 0, none⟩)))) (hm : Hid (w.cell? mc = some (.int .i64 most))) (hn : Hid (w.cell? nc = some (.int .i64 old))) (hf : Hid (w.frozen? nc = false))
    (nr : rc.block ≠ R) (nm : mc.block ≠ R) (nn : nc.block ≠ R) (h : Hid (Has w R s p)) (hno : Hid (NoNumTo s p most)) (hs : s.size ≤ 4611686018427387904) :
    Calls Tryz.prog 95 #[.pointer (some rc), .pointer (some mc), .pointer (some nc)] w fun ev w' => ev = .panicked [{ v := formV, recovered := false }] ∧ (∃ q, Has w' R s q) ∧ But w w' R := by
  have hr' := hr.out
  by_cases hex : ∃ x : Nat, x ≤ 4611686018427387904 ∧ Stands s p x
  · obtain ⟨x, hx, hst⟩ := hex
    have HSt := Lib.hid hst
    have hxm : ¬ (x : Int) ≤ most := fun e => hno.out x hx e hst
    have c1 : decide ((x : Int) ≤ most) = false := decide_eq_false hxm
    clear hst hxm
    go_enter Tryz.func95, Tryz.ntmps95
    go_wp2_with fail
    refine (number_c R s p x _ h HSt hs hx).mono ?_
    rintro e w1 ⟨rfl, hh, hb⟩
    have hm1 := hb.cell hm.out nm
    have HH := Lib.hid hh
    have HB := Lib.hid hb
    clear hh hb
    go_wp2_with fail
    refine (must_no _).mono ?_
    rintro e w2 ⟨rfl, rfl⟩
    exact ⟨rfl, rfl, ⟨_, HH.out⟩, HB.out⟩
  · have HNo := Lib.hid (show NoNum s p from fun y hy hst => hex ⟨y, hy, hst⟩)
    clear hex
    go_enter Tryz.func95, Tryz.ntmps95
    go_wp2_with fail
    refine (number_no R s p _ h HNo hs).mono ?_
    rintro e w1 ⟨rfl, hh, hb⟩
    exact ⟨rfl, rfl, hh, hb⟩
theorem at_form (op path : ByteArray) (w : World) : Calls Tryz.prog 31 #[.string op, .string path, formV] w fun ev w' => ∃ T x, ev = .returned (.iface T x) ∧ IsErr w' (.iface T x) 13 ∧ Below w.heap.size w w' := by
  refine (at_some op path _ _ w).mono ?_
  rintro e w' ⟨rfl, rfl⟩
  exact ⟨_, _, rfl, .inr ⟨_, .wrap _ op path _ 13 [] (Go.Deep.blk_alloc_new w _) (.base 13)⟩, (Below.refl _ _).alloc (Nat.le_refl _) _⟩
theorem isErr_mod {w w' : World} {v : Value} {n : Int} {S : Nat → Prop} (h : IsErr w v n) (k : Mod S w w') (hs : ∀ (b : Nat) (cs : Array Value), w.heap[b]? = some (Obj.cells cs 113 (0, 0)) → ¬ S b) : IsErr w' v n := by
  rcases h with h | ⟨l, h⟩
  · exact .inl h
  · exact .inr ⟨l, h.keep (fun b cs hb => k.blk hb (hs b cs hb))⟩
theorem two_far {w : World} {a b : Addr} {u v : Value} (p : Addr) (x : Value) (h : w.cell? a = some u ∧ w.cell? b = some v) (ha : ¬ a.block = p.block) (hb : ¬ b.block = p.block) : (w.setCell p x).cell? a = some u ∧ (w.setCell p x).cell? b = some v :=
  ⟨(World.cell?_setCell_other _ _ _ _ (fun e => ha (by rw [e]))).trans h.1, (World.cell?_setCell_other _ _ _ _ (fun e => hb (by rw [e]))).trans h.2⟩
theorem assForm (xT : TypeId) (w : World) : (Instr.typeAssert formV xT 74 true).run Tryz.prog w = .ok (.tuple #[.int .i64 13, .bool true]) w := by kernel_rfl
set_option maxHeartbeats 4000000 in
set_option maxRecDepth 100000 in
theorem catch_hit (pa_ pr : Addr) (pe : Nat) (v0 : Value) (R : Nat) (s : ByteArray) (p q : Nat) (w : World) (ha : w.cell? pa_ = some (.int .i64 (p : Int))) (hr : w.cell? pr = some (.pointer (some ⟨R, 0, none⟩))) (he : w.heap[pe]? = some (Obj.cells #[v0] 26 (0, 0))) (h : Has w R s q) (nr : ¬ pe = R) (na : ¬ pa_.block = R) (np : ¬ pr.block = R) (na2 : ¬ pa_.block = pe) (np2 : ¬ pr.block = pe) :
    CallsD Tryz.prog 98 #[.pointer (some pa_), .pointer (some pr), .pointer (some ⟨pe, 0, none⟩)] (.panicking [{ v := formV, recovered := false }]) w fun e u' w' => e = .returned (.tuple #[]) ∧ u' = .panicking [{ v := formV, recovered := true }] ∧
      ∃ T x, w'.cell? ⟨pe, 0, none⟩ = some (.iface T x) ∧ IsErr w' (.iface T x) 13 ∧ Has w' R s p ∧ Mod (fun i => i = R ∨ i = pe) w w' := by
  have hta := assForm
  refine callsD_of_wpS Tryz.func98 rfl fun c₀ cs hu => ?_
  apply wpS_seq
  apply wpS_region
  simp [wpOpsS, go_sem, recoverD, hu, Tryz.ntmps98, Exit.thenS, hta]
  apply wpS_seq
  apply wpS_region
  simp [wpOpsS, go_sem, Exit.thenS]
  refine wpS_cond (t := true) (by simp [Act.eval, Array.replicate]) ?_
  simp only [if_true]
  refine wpS_of_wp ?_
  refine (show Code.wp Tryz.prog _ _ { tmps := #[.pointer (some pa_), .pointer (some pr), .pointer (some ⟨pe, 0, none⟩), .int .i64 13, .bool true, .tuple #[.int .i64 13, .bool true], formV, .tuple #[.int .i64 13, .bool true], .int .i64 13, .bool true, .bool true, undef, undef, undef, undef, undef, undef, undef], defers := [] } w from ?_)
  have HB1 := Lib.hid (show Below w.heap.size w w.drew from (Below.refl _ _).drew)
  have hS0 : w.drew.cell? pa_ = some (.int .i64 (p : Int)) ∧ w.drew.cell? pr = some (.pointer (some ⟨R, 0, none⟩)) := ⟨ha, hr⟩
  have hla := lt_of ha
  have hlr := lt_of hr
  have hle := Err.lt_of_block he
  have hRl : R < w.heap.size := Err.lt_of_block h
  go_region_held3 (fun w' => w'.cell? pa_ = some (.int .i64 (p : Int)) ∧ w'.cell? pr = some (.pointer (some ⟨R, 0, none⟩)))
    (first | with_reducible exact hS0 | with_reducible assumption | exact two_far ⟨R, 1, none⟩ _ hS5 na np | (refine two_far ⟨pe, 0, none⟩ _ (two_far ⟨R, 1, none⟩ _ hS5 na np) na2 np2))
    (first
      | (go_at_call 31
         refine (at_form _ _ _).mono ?_
         rintro e w5 ⟨T, u, rfl, hie, hd5⟩
         have HB5 := Lib.hid (HB1.out.trans (hd5.mono HB1.out.size))
         have hS5 : w5.cell? pa_ = some (.int .i64 (p : Int)) ∧ w5.cell? pr = some (.pointer (some ⟨R, 0, none⟩)) := ⟨(HB5.out.cell hla).trans ha, (HB5.out.cell hlr).trans hr⟩
         have HIE := Lib.hid hie
         have HH5 := Lib.hid (show Has w5 R s q from (HB5.out.block R hRl).trans h)
         have hfr5 := HH5.out.fz
         have hc1 := HH5.out.c1
         have HE5 := Lib.hid (show w5.heap[pe]? = some (Obj.cells #[v0] 26 (0, 0)) from (HB5.out.block pe hle).trans he)
         have hpe5 : w5.cell? ⟨pe, 0, none⟩ = some v0 := Err.cell_of_blk HE5.out 0
         have hpf5 : w5.frozen? ⟨pe, 0, none⟩ = false := by simp [World.frozen?, HE5.out]
         clear hie hd5))
  have hM1 : Mod (fun i => i = R ∨ i = pe) w5 (w5.setCell ⟨R, 1, none⟩ (.int .i64 (p : Int))) := (Mod.refl _ _).set _ _ (.inl (.inl rfl))
  have hM2 : Mod (fun i => i = R ∨ i = pe) w5 ((w5.setCell ⟨R, 1, none⟩ (.int .i64 (p : Int))).setCell ⟨pe, 0, none⟩ (.iface T u)) := hM1.set _ _ (.inl (.inr rfl))
  have hI := isErr_mod HIE.out hM2 (fun b cs hb hf => by
    rcases hf with rfl | rfl
    · have := HH5.out; unfold Has at this; rw [this] at hb; simp at hb
    · rw [HE5.out] at hb; simp at hb)
  have hMM : Mod (fun i => i = R ∨ i = pe) w ((w5.setCell ⟨R, 1, none⟩ (.int .i64 (p : Int))).setCell ⟨pe, 0, none⟩ (.iface T u)) := (Mod.of_below (S := fun i => i = R ∨ i = pe) HB5.out (Nat.le_refl _)).tr hM2
  have hH2 : Has ((w5.setCell ⟨R, 1, none⟩ (.int .i64 (p : Int))).setCell ⟨pe, 0, none⟩ (.iface T u)) R s p := (HH5.out.set _ p rfl).mod (Mod.set (S := (· = pe)) (Mod.refl _ _) ⟨pe, 0, none⟩ _ (.inl rfl)) (fun e => nr e.symm)
  have hC : ((w5.setCell ⟨R, 1, none⟩ (.int .i64 (p : Int))).setCell ⟨pe, 0, none⟩ (.iface T u)).cell? ⟨pe, 0, none⟩ = some (.iface T u) := World.cell?_setCell_same _ _ _ ((World.cell?_setCell_other _ _ _ _ (by intro e; exact nr (congrArg Addr.block e).symm)).trans hpe5)
  exact ⟨rfl, _, rfl, .tuple #[], by simp [results, Tryz.results98], rfl, rfl, T, u, hC, hI, hH2, hMM⟩
theorem alloc3 (w : World) (o1 o2 o3 : Obj) : (((w.alloc o1).alloc o2).alloc o3).heap[w.heap.size]? = some o1 ∧ (((w.alloc o1).alloc o2).alloc o3).heap[w.heap.size + 1]? = some o2 ∧ (((w.alloc o1).alloc o2).alloc o3).heap[w.heap.size + 1 + 1]? = some o3 := by
  have s1 : (w.alloc o1).heap.size = w.heap.size + 1 := by simp
  have s2 : ((w.alloc o1).alloc o2).heap.size = w.heap.size + 1 + 1 := by simp
  have b2 : Below (w.alloc o1).heap.size (w.alloc o1) ((w.alloc o1).alloc o2) := (Below.refl _ _).alloc (Nat.le_refl _) _
  have b3 : Below ((w.alloc o1).alloc o2).heap.size ((w.alloc o1).alloc o2) (((w.alloc o1).alloc o2).alloc o3) := (Below.refl _ _).alloc (Nat.le_refl _) _
  have h1 := Go.Deep.blk_alloc_new w o1
  have h2 := Go.Deep.blk_alloc_new (w.alloc o1) o2
  have h3 := Go.Deep.blk_alloc_new ((w.alloc o1).alloc o2) o3
  rw [s1] at h2
  rw [s2] at h3
  exact ⟨(b3.block _ (by omega)).trans ((b2.block _ (by omega)).trans h1), (b3.block _ (by omega)).trans h2, h3⟩
set_option maxHeartbeats 4000000 in
set_option maxRecDepth 100000 in
theorem safe_no (F : Nat) (caps : Array Value) (R : Nat) (s : ByteArray) (p : Nat) (w : World) (h : Hid (Has w R s p))
    (hcf : ∀ w : World, (callFunc F caps).run Tryz.prog w = .ok (.enter F caps) w) (hF : ∀ w3, Below w.heap.size w w3 → Calls Tryz.prog F caps w3 fun ev w' => ev = .panicked [{ v := formV, recovered := false }] ∧ (∃ q, Has w' R s q) ∧ Mod (· = R) w3 w') :
    Calls Tryz.prog 94 #[.pointer (some ⟨R, 0, none⟩), .func (.func F) #[] caps] w fun ev w' => (∃ T x, ev = .returned (.iface T x) ∧ IsErr w' (.iface T x) 13) ∧ Mod (· = R) w w' ∧ Has w' R s p := by
  have hmf : ∀ (fn : Fn) (first cap : Array Value) (w : World), (Instr.makeFunc fn first cap).run Tryz.prog w = .ok (.func fn first cap) w := fun _ _ _ _ => rfl
  have hRl : R < w.heap.size := Err.lt_of_block h.out
  have hW : Below w.heap.size w ((w.alloc (.cells #[.pointer (some ⟨R, 0, none⟩)] 139)).alloc (.cells #[.nilIface] 26)) := ((Below.refl _ _).alloc (Nat.le_refl _) _).alloc (by simp) _
  have h1 := (hW.cell (p := ⟨R, 1, none⟩) hRl).trans h.out.c1
  clear hW
  go_enter_defers Tryz.func94, Tryz.ntmps94
  go_wp2_with fail
  have hW3 : Below w.heap.size w (((w.alloc (.cells #[.pointer (some ⟨R, 0, none⟩)] 139)).alloc (.cells #[.nilIface] 26)).alloc (.cells #[.int .i64 (p : Int)] 3)) := (((Below.refl _ _).alloc (Nat.le_refl _) _).alloc (by simp) _).alloc (by simp; omega) _
  obtain ⟨hR3, hE3, hA3⟩ := alloc3 w (.cells #[.pointer (some ⟨R, 0, none⟩)] 139) (.cells #[.nilIface] 26) (.cells #[.int .i64 (p : Int)] 3)
  have hM3 := Lib.hid (Mod.of_below (S := (· = R)) hW3 (Nat.le_refl _))
  refine (hF _ hW3).mono ?_
  rintro e w4 ⟨rfl, ⟨q, hh4⟩, hb4⟩
  have hR4 := hb4.blk hR3 (by omega)
  have hE4 := hb4.blk hE3 (by omega)
  have hA4 := hb4.blk hA3 (by omega)
  have hB := Lib.hid (hM3.out.tr hb4)
  have hH := Lib.hid hh4
  clear hb4 hh4 hR3 hE3 hA3 hM3
  go_wp2_with fail
  refine leaves_cons (f := 98) (args := #[.pointer (some ⟨w.heap.size + 1 + 1, 0, none⟩), .pointer (some ⟨w.heap.size, 0, none⟩), .pointer (some ⟨w.heap.size + 1, 0, none⟩)]) (by simp) (by simp [go_sem]) ?_
  refine (catch_hit ⟨w.heap.size + 1 + 1, 0, none⟩ ⟨w.heap.size, 0, none⟩ (w.heap.size + 1) .nilIface R s p q _ (Err.cell_of_blk hA4 0) (Err.cell_of_blk hR4 0) hE4 hH.out (by omega) (by show ¬ w.heap.size + 1 + 1 = R; omega) (by show ¬ w.heap.size = R; omega) (by show ¬ w.heap.size + 1 + 1 = w.heap.size + 1; omega) (by show ¬ w.heap.size = w.heap.size + 1; omega)).mono ?_
  rintro e u' w'' ⟨rfl, rfl, T, x, hc, hi, hh, hm⟩
  simp [Leaves, settle, results, Tryz.results94, go_sem, hc]
  exact ⟨⟨T, x, ⟨rfl, rfl⟩, hi⟩, hB.out.trans hm (by rintro i hi (e | e); exact e; omega), hh⟩
set_option maxHeartbeats 4000000 in
set_option maxRecDepth 100000 in
theorem num_no (R : Nat) (s : ByteArray) (p : Nat) (most : Int) (w : World) (h : Hid (Has w R s p)) (hno : Hid (NoNumTo s p most)) (hs : s.size ≤ 4611686018427387904) :
    Calls Tryz.prog 91 #[.pointer (some ⟨R, 0, none⟩), .int .i64 most] w fun ev w' => (∃ T x, ev = .returned (.tuple #[.int .i64 0, .iface T x]) ∧ IsErr w' (.iface T x) 13) ∧ Mod (· = R) w w' ∧ Has w' R s p := by
  have hmf : ∀ (fn : Fn) (first cap : Array Value) (w : World), (Instr.makeFunc fn first cap).run Tryz.prog w = .ok (.func fn first cap) w := fun _ _ _ _ => rfl
  have hRl : R < w.heap.size := Err.lt_of_block h.out
  go_enter Tryz.func91, Tryz.ntmps91
  go_wp2_with fail
  have hH3 : Has (W3 w R most (.int .i64 0) 3) R s p := ((w3_below w R most _ _).block R hRl).trans h.out
  refine (safe_no 95 _ R s p (W3 w R most (.int .i64 0) 3) (Lib.hid hH3) (fun _ => by kernel_rfl) ?_).mono ?_
  · intro w4 hb
    have e1 := hb.cell (p := ⟨w.heap.size, 0, none⟩) (by rw [w3_size]; simp)
    have e2 := hb.cell (p := ⟨w.heap.size + 1, 0, none⟩) (by rw [w3_size]; simp)
    have e3 := hb.cell (p := ⟨w.heap.size + 1 + 1, 0, none⟩) (by rw [w3_size]; simp)
    have e4 := hb.frozen (p := ⟨w.heap.size + 1 + 1, 0, none⟩) (by rw [w3_size]; simp)
    rw [w3_r] at e1; rw [w3_m] at e2; rw [w3_n] at e3; rw [w3_f] at e4
    refine (num1_no ⟨w.heap.size, 0, none⟩ ⟨w.heap.size + 1, 0, none⟩ ⟨w.heap.size + 1 + 1, 0, none⟩ R s p most 0 w4 (Lib.hid e1) (Lib.hid e2) (Lib.hid e3) (Lib.hid e4) (by simp; omega) (by simp; omega) (by simp; omega) (Lib.hid ((hb.block R (by rw [w3_size]; omega)).trans hH3)) hno hs).mono ?_
    rintro e w' ⟨rfl, hq, hb5⟩
    exact ⟨rfl, hq, hb5.mod⟩
  · rintro e w' ⟨⟨T, x, rfl, hi⟩, hm, hh⟩
    have hn := (Mod.cell hm (w3_n w R most (.int .i64 0) 3) (by simp; omega))
    have HM := Lib.hid (Mod.trans (S := (· = R)) (Mod.of_below (w3_below w R most (.int .i64 0) 3) (Nat.le_refl _)) hm (fun i hi e => e))
    have HH := Lib.hid hh
    have HI := Lib.hid hi
    clear hm hh hi hH3 h
    go_wp2_with fail
    repeat (go_quiet (fail); try go_wp2)
    go_ret2
    exact ⟨⟨T, x, rfl, HI.out⟩, HM.out, HH.out⟩
end Go.Proofs.YtaodgnladjafoaaGreatDoor.Rdr
