/- A slot's sector with one byte changed (plain); the laws' Plain. -/
import Derived.Test.YtkgiifcbimpcoaaDoorSlotCalls
import Derived.Laws.BitsAllLaws
set_option linter.unusedVariables false
set_option linter.unusedSimpArgs false
namespace Go.Proofs.YtkgiifcbimpcoaaDoor.Slt
open Go.Proofs.YtkgiifcbimpcoaaDoor.AdM (sum bl bl_length A B A_one A_lt B_lt)
open Go.RowKit Go.Proofs.YtkgiifcbimpcoaaDoorW.PrintWords Go.Proofs.YtkgiifcbimpcoaaDoorW.PrintLast Go.Proofs.YtkgiifcbimpcoaaDoorW.PrintMore Go.Proofs.YtkgiifcbimpcoaaDoor.CdM Go.Proofs.YtkgiifcbimpcoaaDoor.Md Go.Proofs.YtkgiifcbimpcoaaDoor.Dk Go.Proofs.YtkgiifcbimpcoaaDoor.Blb
open Go.Proofs.YtkgiifcbimpcoaaDoor.Err (Laid IsErr code_nil code_c Chain at_some at_nil)
theorem neR_run (w : World) (x0 x1 x2 x3 y0 y1 y2 y3 : Int) : (binOp .neq 24 (.agg (slA x0 x1 x2 x3)) (.agg (slA y0 y1 y2 y3))).run Tryd.prog w = .ok (.bool (!(x0 == y0 && (x1 == y1 && (x2 == y2 && (x3 == y3)))))) w := by
  rw [run_neq_struct, eqR 9998]
  rfl
theorem exec_neR {ρ : Operand → Value} {o : Oper} {x y : Operand} {W : World} {x0 x1 x2 x3 y0 y1 y2 y3 : Int} {b : Bool} (ho : o.op = .binOp .neq 24 x y 24) (hx : ρ x = .agg (slA x0 x1 x2 x3)) (hy : ρ y = .agg (slA y0 y1 y2 y3)) (hb : (!(x0 == y0 && (x1 == y1 && (x2 == y2 && (x3 == y3))))) = b) : (execOp ρ o).run Tryd.prog W = .ok (.value (.bool b)) W := by
  unfold execOp; simp only [ho, hx, hy, eqG24 .neq x y x0 x1 x2 x3 y0 y1 y2 y3 W, neR_run W, Sem.run_bind, Sem.run_pure, Result.andThen_ok, hb]
/-- one byte against another -/
theorem xor_byte (b0 : UInt8) (b : Int) (h0 : 0 ≤ b) (h1 : b < 256) : ∃ y : UInt8, Go.bits .xor .u8 ((b0.toNat : Nat) : Int) b = ((y.toNat : Nat) : Int) ∧ (y = b0 ↔ b = 0) := by
  have hlt := b0.toNat_lt
  rw [u8_xor _ _ (by omega) (by omega) h0 h1, Int.toNat_natCast]
  have hx : b0.toNat ^^^ b.toNat < 2 ^ 8 := Nat.xor_lt_two_pow (by omega) (by omega)
  refine ⟨UInt8.ofNat (b0.toNat ^^^ b.toNat), ?_, ?_⟩
  · rw [UInt8.toNat_ofNat', Nat.mod_eq_of_lt hx]
  · rw [← UInt8.toNat_inj, UInt8.toNat_ofNat', Nat.mod_eq_of_lt hx]
    constructor
    · intro h
      have h2 : b0.toNat ^^^ (b0.toNat ^^^ b.toNat) = b.toNat := by rw [← Nat.xor_assoc, Nat.xor_self, Nat.zero_xor]
      rw [h, Nat.xor_self] at h2
      omega
    · intro h
      rw [h]; exact Nat.xor_zero _
theorem bt_sub (p : Pg) (o n i : Nat) (hi : i < n) (h : o + i < 64) : bt (sub p o n) (i : Int) = (((p.1[o + i]'(by rw [p.2]; exact h)).toNat : Nat) : Int) := by
  refine bt_of _ i _ ?_
  rw [sub_list, List.getElem?_take, if_pos hi, List.getElem?_drop, List.getElem?_eq_getElem]
/-- with one byte of it changed its sum is wrong -/
theorem byte_wrong {p : Pg} (h : numV (sub p 60 4) = sum (sub p 0 60)) (j : Nat) (hj : j < 64) (y : UInt8) (hy : y ≠ p.1[j]'(by rw [p.2]; exact hj)) : numV (sub (pset p j y) 60 4) ≠ sum (sub (pset p j y) 0 60) := by
  have hp := p.2
  by_cases h60 : j < 60
  · have e1 : sub (pset p j y) 60 4 = sub p 60 4 := by
      apply sub_ext
      show ((p.1.set j y).drop 60).take 4 = _
      rw [List.drop_set_of_lt h60]
    have e2 : (sub (pset p j y) 0 60).data.toList = (sub p 0 60).data.toList.set j y := by
      rw [sub_list, sub_list]
      show ((p.1.set j y).drop 0).take 60 = _
      rw [List.drop_zero, List.drop_zero, List.take_set]
    rw [e1, h]
    intro e
    refine sum_set (sub p 0 60) (sub (pset p j y) 0 60) j y (by rw [sub_size _ _ _ (by decide)]; exact h60) e2 ?_ e.symm
    rw [sub_list, List.getD_eq_getElem?_getD, List.drop_zero, List.getElem?_take, if_pos h60, List.getElem?_eq_getElem (by omega)]
    exact hy
  · have e1 : sub (pset p j y) 0 60 = sub p 0 60 := by
      apply sub_ext
      show ((p.1.set j y).drop 0).take 60 = _
      rw [List.drop_zero, List.drop_zero, List.take_set_of_le (by omega)]
    rw [e1, ← h]
    intro e
    have key : ∀ i : Nat, i < 4 → bt (sub (pset p j y) 60 4) (i : Int) = bt (sub p 60 4) (i : Int) := by
      have r0 := bt_range (sub p 60 4) 0
      have r1 := bt_range (sub p 60 4) 1
      have r2 := bt_range (sub p 60 4) 2
      have r3 := bt_range (sub p 60 4) 3
      have q0 := bt_range (sub (pset p j y) 60 4) 0
      have q1 := bt_range (sub (pset p j y) 60 4) 1
      have q2 := bt_range (sub (pset p j y) 60 4) 2
      have q3 := bt_range (sub (pset p j y) 60 4) 3
      unfold numV at e
      intro i hi
      rcases i with _ | _ | _ | _ | i
      · show bt _ 0 = bt _ 0; omega
      · show bt _ 1 = bt _ 1; omega
      · show bt _ 2 = bt _ 2; omega
      · show bt _ 3 = bt _ 3; omega
      · omega
    have k := key (j - 60) (by omega)
    rw [bt_sub _ _ _ _ (by omega) (by omega), bt_sub _ _ _ _ (by omega) (by omega)] at k
    have e3 : 60 + (j - 60) = j := by omega
    have k2 : ((pset p j y).1[60 + (j - 60)]'(by rw [(pset p j y).2]; omega)).toNat = (p.1[60 + (j - 60)]'(by omega)).toNat := by omega
    have k3 := UInt8.toNat_inj.1 k2
    have e4 : (pset p j y).1[60 + (j - 60)]? = some y := by rw [e3]; exact List.getElem?_set_self (by omega)
    have e5 : p.1[60 + (j - 60)]? = some (p.1[j]'(by rw [p.2]; exact hj)) := by rw [e3]; exact List.getElem?_eq_getElem _
    obtain ⟨_, e4⟩ := List.getElem?_eq_some_iff.1 e4
    obtain ⟨_, e5⟩ := List.getElem?_eq_some_iff.1 e5
    rw [e4, e5] at k3
    exact hy k3
theorem byte_same (p : Pg) (j : Nat) (hj : j < 64) : pset p j (p.1[j]'(by rw [p.2]; exact hj)) = p := by
  apply Subtype.ext
  exact List.set_getElem_self _
theorem lay_byte {s : Sl} (h : s.Rt) (j : Nat) (hj : j < 64) (y : UInt8) (hy : y ≠ s.lay.1[j]'(by rw [s.lay.2]; exact hj)) : slotOf (pset s.lay j y) = Sl.zero ∧ slotBad (pset s.lay j y) = 12 := by
  have hw := byte_wrong (p := s.lay) (lay_sum _ _ _ _) j hj y hy
  have e0 := slotOf_sum hw
  refine ⟨e0, ?_⟩
  unfold slotBad
  rw [e0, if_neg (by show ¬ (0 : Int) < 0; omega), if_neg hw]
theorem plain_results (tmps : Array Value) (W : World) (b : Nat) (g x y z : Int) (h4 : tmps.getD 2 undef = .pointer (some ⟨b, 0, none⟩)) (h : W.heap[b]? = some (Obj.cells (slA g x y z) 24 (0, 0))) : (results Tryd.f14 tmps).run Tryd.prog W = .ok (.agg (slA g x y z)) W := by
  have hl : (loadVar 24 ⟨b, 0, none⟩).run Tryd.prog W = .ok (.agg (slA g x y z)) W := run_loadVar_row W b 24 24 (slA g x y z) (0, 0) _ h Tryd.underlying24 rfl (by kernel_rfl)
  have h4' : tmps[2]?.getD undef = .pointer (some ⟨b, 0, none⟩) := by simpa using h4
  simp [results, Tryd.results14, asAddr, h4', hl]
set_option maxHeartbeats 2000000 in
set_option maxRecDepth 100000 in
theorem plain_c (g x y z : Int) (w : World) : Calls Tryd.prog 14 #[.agg (slA g x y z)] w fun e w' => e = .returned (.agg (slA g x y z)) ∧ Below w.heap.size w w' := by
  go_enter Tryd.func14, Tryd.ntmps14
  go_wp2
  refine bodyPost_ret (v := .agg (slA g x y z)) ?_ rfl ?_
  · exact plain_results _ _ (w.heap.size + 1) g x y z rfl (by have h := heap_alloc_last (w.alloc (Obj.cells (slA g x y z) 35 (0, 0))) (Obj.cells (slA g x y z) 24 (0, 0)); rw [alloc_size] at h; exact h)
  exact ⟨rfl, (alloc2 w _ _).2.2.out⟩
end Go.Proofs.YtkgiifcbimpcoaaDoor.Slt
