/- Small calls of the laws on slots: Of, the document's Right; two slots held against each other. -/
import Derived.Test.YtkgiifcbimpcoaaDoorSlot8
import Derived.Test.YtkgiifcbimpcoaaDoorSlotArg
set_option linter.unusedVariables false
set_option linter.unusedSimpArgs false
namespace Go.Proofs.YtkgiifcbimpcoaaDoor.Slt
open Go.RowKit Go.Proofs.YtkgiifcbimpcoaaDoor.QSlotUnlike Go.Proofs.YtkgiifcbimpcoaaDoorW.PrintWords Go.Proofs.YtkgiifcbimpcoaaDoorW.PrintLast Go.Proofs.YtkgiifcbimpcoaaDoorW.PrintMore Go.Proofs.YtkgiifcbimpcoaaDoor.CdM Go.Proofs.YtkgiifcbimpcoaaDoor.Md Go.Proofs.YtkgiifcbimpcoaaDoor.Dk Go.Proofs.YtkgiifcbimpcoaaDoor.Blb
open Go.Extern.Stop (cell)
open Go.Proofs.YtkgiifcbimpcoaaDoor.Err (Laid IsErr code_nil code_c Chain at_some at_nil)
theorem of_c (g x y z : Int) (w : World) : Calls Tryd.prog 11 #[.agg (slA g x y z)] w fun e w' => e = .returned (.agg (slA g x y z)) ∧ Below w.heap.size w w' :=
  shalelaw19_Of.calls g x y z g x y z w rfl
theorem rright_c (g x y z : Int) (b : Bool) (w : World) (hb : Hid (rightB g x y z = b)) : Calls Tryd.prog 15 #[.agg (slA g x y z)] w fun e w' => e = .returned (.bool b) ∧ Below w.heap.size w w' := by
  refine shaleref19_Right.calls g x y z _ w ?_
  rw [← hb.out]
  unfold shaleref19_Right.f rightB
  by_cases h1 : 0 < g
  · rw [if_pos h1, decide_eq_true h1]
    by_cases h2 : 0 ≤ x
    · rw [if_pos h2, decide_eq_true h2]
      by_cases h3 : x ≤ 2048
      · rw [if_pos h3, decide_eq_true h3]
        by_cases h4 : 0 ≤ y
        · rw [if_pos h4, decide_eq_true h4]; rfl
        · rw [if_neg h4, decide_eq_false h4]; rfl
      · rw [if_neg h3, decide_eq_false h3]; rfl
    · rw [if_neg h2, decide_eq_false h2]; rfl
  · rw [if_neg h1, decide_eq_false h1]; rfl
/-- two slots of the document's held against each other -/
theorem eqR (d : Nat) (w : World) (x0 x1 x2 x3 y0 y1 y2 y3 : Int) : (Op.equalIn (d + 2) 24 (.agg (slA x0 x1 x2 x3)) (.agg (slA y0 y1 y2 y3))).run Tryd.prog w = .ok (x0 == y0 && (x1 == y1 && (x2 == y2 && (x3 == y3)))) w := by
  refine eqA_of Tryd.underlying24 (by kernel_rfl) ?_
  refine eqf_cons (by rfl) (by go_simp; rfl) (by go_simp; rfl) (by go_simp) ?_
  refine eqf_cons (by rfl) (by go_simp; rfl) (by go_simp; rfl) (by go_simp) ?_
  refine eqf_cons (by rfl) (by go_simp; rfl) (by go_simp; rfl) (by go_simp) ?_
  exact eqf_last (by rfl) (by go_simp; rfl) (by go_simp; rfl) (by go_simp)
theorem eqR_run (w : World) (x0 x1 x2 x3 y0 y1 y2 y3 : Int) : (binOp .eql 24 (.agg (slA x0 x1 x2 x3)) (.agg (slA y0 y1 y2 y3))).run Tryd.prog w = .ok (.bool (x0 == y0 && (x1 == y1 && (x2 == y2 && (x3 == y3))))) w := by
  rw [run_eql_struct, eqR 9998]
  rfl
theorem eqG24 (op : BinOp) (x y : Operand) (x0 x1 x2 x3 y0 y1 y2 y3 : Int) (w : World) : (eqGuard op 24 x y (.agg (slA x0 x1 x2 x3)) (.agg (slA y0 y1 y2 y3))).run Tryd.prog w = .ok () w := run_eqGuard_agg w op 24 x y _ _ (by kernel_rfl)
theorem exec_eqR {ρ : Operand → Value} {o : Oper} {x y : Operand} {W : World} {x0 x1 x2 x3 y0 y1 y2 y3 : Int} {b : Bool} (ho : o.op = .binOp .eql 24 x y 24) (hx : ρ x = .agg (slA x0 x1 x2 x3)) (hy : ρ y = .agg (slA y0 y1 y2 y3)) (hb : (x0 == y0 && (x1 == y1 && (x2 == y2 && (x3 == y3)))) = b) : (execOp ρ o).run Tryd.prog W = .ok (.value (.bool b)) W := by
  unfold execOp; simp only [ho, hx, hy, eqG24 .eql x y x0 x1 x2 x3 y0 y1 y2 y3 W, eqR_run W, Sem.run_bind, Sem.run_pure, Result.andThen_ok, hb]
theorem exec_eq30 {ρ : Operand → Value} {o : Oper} {x y : Operand} {W : World} {p q : Pg} {b : Bool} (ho : o.op = .binOp .eql 27 x y 27) (hx : ρ x = pv p) (hy : ρ y = pv q) (hb : (p.1 == q.1) = b) : (execOp ρ o).run Tryd.prog W = .ok (.value (.bool b)) W := by
  unfold execOp; simp only [ho, hx, hy, eqG .eql x y p q W, eqlP p q W, Sem.run_bind, Sem.run_pure, Result.andThen_ok, hb]
theorem eqS (d : Nat) (w : World) (x0 x1 x2 x3 y0 y1 y2 y3 : Int) : (Op.equalIn (d + 3) 35 (.agg (slA x0 x1 x2 x3)) (.agg (slA y0 y1 y2 y3))).run Tryd.prog w = .ok (x0 == y0 && (x1 == y1 && (x2 == y2 && (x3 == y3)))) w := by
  refine eqA_of Tryd.underlying35 (by kernel_rfl) ?_
  refine eqf_cons (by rfl) (by go_simp; rfl) (by go_simp; rfl) (by go_simp) ?_
  refine eqf_last (a := .agg (refA x1 x2 x3)) (b := .agg (refA y1 y2 y3)) (by rfl) (by go_simp) (by go_simp) ?_
  refine eqA_of Tryd.underlying33 (by kernel_rfl) ?_
  refine eqf_cons (by rfl) (by go_simp; rfl) (by go_simp; rfl) (by go_simp) ?_
  refine eqf_cons (by rfl) (by go_simp; rfl) (by go_simp; rfl) (by go_simp) ?_
  exact eqf_last (by rfl) (by go_simp; rfl) (by go_simp; rfl) (by go_simp)
theorem eqS_run (w : World) (x0 x1 x2 x3 y0 y1 y2 y3 : Int) : (binOp .eql 35 (.agg (slA x0 x1 x2 x3)) (.agg (slA y0 y1 y2 y3))).run Tryd.prog w = .ok (.bool (x0 == y0 && (x1 == y1 && (x2 == y2 && (x3 == y3))))) w := by
  rw [run_eql_struct, eqS 9997]
  rfl
theorem eqG35 (op : BinOp) (x y : Operand) (x0 x1 x2 x3 y0 y1 y2 y3 : Int) (w : World) : (eqGuard op 35 x y (.agg (slA x0 x1 x2 x3)) (.agg (slA y0 y1 y2 y3))).run Tryd.prog w = .ok () w := run_eqGuard_agg w op 35 x y _ _ (by kernel_rfl)
theorem exec_eqS {ρ : Operand → Value} {o : Oper} {x y : Operand} {W : World} {x0 x1 x2 x3 y0 y1 y2 y3 : Int} {b : Bool} (ho : o.op = .binOp .eql 35 x y 35) (hx : ρ x = .agg (slA x0 x1 x2 x3)) (hy : ρ y = .agg (slA y0 y1 y2 y3)) (hb : (x0 == y0 && (x1 == y1 && (x2 == y2 && (x3 == y3)))) = b) : (execOp ρ o).run Tryd.prog W = .ok (.value (.bool b)) W := by
  unfold execOp; simp only [ho, hx, hy, eqG35 .eql x y x0 x1 x2 x3 y0 y1 y2 y3 W, eqS_run W, Sem.run_bind, Sem.run_pure, Result.andThen_ok, hb]
/-- the cells of a document's slot in a variable -/
theorem rs_keep {w wr : World} {K : Nat} {g x y z : Int} (h : w.heap[K]? = some (Obj.cells (slA g x y z) 24 (0, 0))) (hb : Below w.heap.size w wr) : wr.cell? ⟨K, 0, none⟩ = some (.int .u32 g) ∧ wr.cell? ⟨K, 1, none⟩ = some (.int .i64 x) ∧ wr.cell? ⟨K, 2, none⟩ = some (.int .i64 y) ∧ wr.cell? ⟨K, 3, none⟩ = some (.int .u32 z) := by
  have h2 := (hb.block K (Err.lt_of_block h)).trans h
  exact ⟨Err.cell_of_blk h2 0, Err.cell_of_blk h2 1, Err.cell_of_blk h2 2, Err.cell_of_blk h2 3⟩
end Go.Proofs.YtkgiifcbimpcoaaDoor.Slt
