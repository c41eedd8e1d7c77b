/- Disk.settle, Flush, Crash, New. -/
import Derived.Test.YtkkikhbenhkfcaaDoorDisk4
set_option linter.unusedVariables false
set_option linter.unusedSimpArgs false
namespace Go.Proofs.YtkkikhbenhkfcaaDoor.Dk
open Go.RowKit Go.Proofs.YtkkikhbenhkfcaaDoorW.PrintWords Go.Proofs.YtkkikhbenhkfcaaDoorW.PrintLast Go.Proofs.YtkkikhbenhkfcaaDoorW.PrintMore Go.Proofs.YtkkikhbenhkfcaaDoor.Md
open Go.Extern.Stop (cell)
open Go.Proofs.YtkkikhbenhkfcaaDoor.Err (Laid IsErr code_nil Chain at_some at_nil)
/-- which of the writes a mask makes firm: write n, if the mask's bit n (modulo 64) is 1 -/
def bit (mask n : Nat) : Bool := mask / 2 ^ (n % 64) % 2 == 1
def stl (mask : Nat) (F : Int → Pg) : List (Int × Pg) → Nat → (Int → Pg)
  | [], _ => F
  | x :: r, n => stl mask (if bit mask n then upd F x.1 x.2 else F) r (n + 1)
theorem stl_snoc (mask : Nat) (x : Int × Pg) : ∀ (l : List (Int × Pg)) (F : Int → Pg) (n : Nat), stl mask F (l ++ [x]) n = if bit mask (n + l.length) then upd (stl mask F l n) x.1 x.2 else stl mask F l n
  | [], F, n => rfl
  | y :: l, F, n => by
    simp only [List.cons_append, stl, List.length_cons]
    rw [stl_snoc mask x l _ (n + 1), show n + 1 + l.length = n + (l.length + 1) by omega]
theorem u64_and1 (x : Nat) (h : x < 2 ^ 64) : Go.bits .and .u64 (x : Int) 1 = ((x % 2 : Nat) : Int) := by
  have key : (BitVec.ofInt 64 (x : Int) &&& BitVec.ofInt 64 1).toNat = x % 2 := by
    rw [BitVec.toNat_and, BitVec.toNat_ofInt]
    have : (BitVec.ofInt 64 1).toNat = 2 ^ 1 - 1 := by decide
    rw [this, Nat.and_two_pow_sub_one_eq_mod]
    omega
  show IntKind.u64.wrap ((BitVec.ofInt 64 (x : Int) &&& BitVec.ofInt 64 1).toNat : Nat) = _
  rw [key]
  simp [IntKind.wrap, IntKind.bits, IntKind.signed]
  omega
theorem bit_eq (mask k : Nat) (hm : mask < 2 ^ 64) : (Go.bits .and .u64 ((mask : Int) / 2 ^ (k % 64)) 1 == 1) = bit mask k := by
  have e : (mask : Int) / 2 ^ (k % 64) = ((mask / 2 ^ (k % 64) : Nat) : Int) := by push_cast; rfl
  rw [e, u64_and1 _ (Nat.lt_of_le_of_lt (Nat.div_le_self _ _) hm)]
  unfold bit
  rw [Bool.eq_iff_iff]
  simp
  omega
set_option maxHeartbeats 1000000 in
set_option maxRecDepth 100000 in
theorem new_c (w : World) (n : Int) (h1 : 1 ≤ n) (h2 : n ≤ 2048) :
    Calls Tryd.prog 8 #[.int .i64 n] w fun ev w' => ∃ R M, w.heap.size ≤ R ∧ w.heap.size ≤ M ∧ ev = .returned (.tuple #[.pointer (some ⟨R, 0, none⟩), .nilIface]) ∧ Below w.heap.size w w' ∧ IsD w' R M (.slice none 0 0) ⟨n, fun _ => pz, [], false, -1⟩ := by
  have c1 : decide (n < 1) = false := decide_eq_false (by omega)
  have c2 : decide (n > 2048) = false := decide_eq_false (by omega)
  have hmm := @run_makeMap Tryd.prog
  clear h1 h2
  go_enter Tryd.func8, Tryd.ntmps8
  go_wp2_with fail
  go_ret2
  have hb : Below w.heap.size w (w.alloc (Obj.map #[] 0)) := (Below.refl _ _).alloc (Nat.le_refl _) _
  refine ⟨w.heap.size + 1, w.heap.size, by omega, Nat.le_refl _, rfl, hb.alloc hb.size _, ?_, ?_, Kd.R_nil _ _ _ _ _⟩
  · have z := heap_alloc_last (w.alloc (Obj.map #[] 0)) (Obj.cells #[.int .i64 n, .map (some w.heap.size), .slice none 0 0, .bool false, .int .i64 (-1)] 62 (0, 0))
    have e : (w.alloc (Obj.map #[] 0)).heap.size = w.heap.size + 1 := by simp
    rw [e] at z
    exact z
  · refine ⟨#[], 0, ?_, fun e he => by simp at he, fun k _ => rfl, fun i j e f he => by simp at he⟩
    rw [heap_alloc_old _ _ (by simp)]
    exact heap_alloc_new _ _
end Go.Proofs.YtkkikhbenhkfcaaDoor.Dk
