/- An act as a whole: loaded out of a list, laid into a variable. -/
import Derived.Test.YtoanhafbofphgaaDoorRefD4
import Derived.Test.YtoanhafbofphgaaDoorActs
set_option linter.unusedVariables false
set_option linter.unusedSimpArgs false
namespace Go.Proofs.YtoanhafbofphgaaDoor.Rfd
open Go.RowKit Go.Proofs.YtoanhafbofphgaaDoorW.PrintWords Go.Proofs.YtoanhafbofphgaaDoorW.PrintLast Go.Proofs.YtoanhafbofphgaaDoorW.PrintMore Go.Proofs.YtoanhafbofphgaaDoor.Md Go.Proofs.YtoanhafbofphgaaDoor.Dk
open Go.Extern.Stop (cell)
def aa (x : Dk.Act) : Array Value := (acs x).toArray
def azero : Dk.Act := ⟨0, 0, pz, 0⟩
theorem acs_length (x : Dk.Act) : (acs x).length = 67 := by simp [acs, pcs_length]
theorem aa_size (x : Dk.Act) : (aa x).size = 67 := by simp [aa, acs_length]
theorem aa_one (x : Dk.Act) : (aa x).all (·.oneCell') = true := all_oneCell_toArray (fun v hv => by
  simp only [acs, List.mem_cons, List.mem_append] at hv
  rcases hv with rfl | rfl | h | rfl | h
  · rfl
  · rfl
  · exact pcs_one _ v h
  · rfl
  · cases h)
theorem sizeA : (Tryd.prog.info? 34).map (·.size) = some 67 := by kernel_rfl
theorem add_add (a : Addr) (i j : Nat) : (a.add i).add j = a.add (i + j) := by
  unfold Addr.add
  by_cases hi : i = 0
  · subst hi
    rw [if_pos rfl, Nat.zero_add]
  · rw [if_neg hi]
    by_cases hj : j = 0
    · subst hj
      rw [if_pos rfl, Nat.add_zero, if_neg hi]
    · rw [if_neg hj, if_neg (by omega)]
      simp [Nat.add_assoc]
/-- an act's cells stand from p on -/
def ActAt (w : World) (p : Addr) (x : Dk.Act) : Prop := ∀ j v, (acs x)[j]? = some v → w.cell? (p.add j) = some v
theorem acts_at {w : World} {A : Option Addr} {n : Nat} {l : List Dk.Act} (h : Kd.C ak w A n l) (i : Nat) (hi : i < l.length) : ∃ ad, A = some ad ∧ ActAt w (ad.add (i * 67)) l[i] := by
  obtain ⟨h1, _, h3⟩ := h
  obtain ⟨ad, e, hx⟩ := h3 (by omega)
  obtain ⟨cs, g1, g2, g4⟩ := hx i l[i] (List.getElem?_eq_getElem hi)
  have g2' : cs = acs l[i] := g2
  subst g2'
  exact ⟨ad, e, fun j v hj => by rw [add_add]; exact g4 j v hj⟩
theorem run_loadA (w : World) (p : Addr) (x : Dk.Act) (h : ActAt w p x) : (Instr.loadAt 34 (.pointer (some p))).run Tryd.prog w = .ok (.agg (aa x)) w := by
  have hl : (loadCells p (acs x).length).run Tryd.prog w = .ok (acs x).toArray w := run_loadCells_list (P := Tryd.prog) w p (acs x) h
  rw [acs_length] at hl
  have hi := sizeA
  have hagg := Tryd.isAgg34
  cases hq : Tryd.prog.info? 34 with
  | none => rw [hq] at hi; simp at hi
  | some i =>
    have hs : i.size = 67 := by rw [hq] at hi; simpa using hi
    simp only [Instr.loadAt, Instr.sureAddr, Sem.run_bind, Sem.run_pure, Result.andThen_ok]
    simp [loadVar, Sem.run_bind, hagg, sizeOf, typeInfo, hq, hs, hl, aa]
section
variable {ops : Array Oper} {rest : List Oper} {o : Oper} {a : Go.Act} {w : World} {Q : Exit → Go.Act → World → Prop}
theorem wl_loadA (p : Addr) (x : Dk.Act) (hp : ActAt w p x) (hgd : o.guard = none) (p_ : Operand) (ho : o.op = .load 34 p_) (hx : a.eval p_ = .pointer (some p))
    (h : wpList Tryd.prog ops Q rest (a.put o.dst (.agg (aa x))) w) : wpList Tryd.prog ops Q (o :: rest) a w :=
  Kd.event_run hgd (by unfold execOp; simp only [ho, hx, run_loadA w p x hp, Sem.run_bind, Sem.run_pure, Result.andThen_ok]) h
theorem wl_allocA (hgd : o.guard = none) (ho : o.op = .alloc 34) (h : wpList Tryd.prog ops Q rest (a.put o.dst (.pointer (some ⟨w.heap.size, 0, none⟩))) (w.alloc (Obj.cells (aa azero) 34 (0, 0)))) : wpList Tryd.prog ops Q (o :: rest) a w :=
  Kd.event_run hgd (by unfold execOp; simp only [ho]; kernel_rfl) h
theorem wl_storeAn {W : World} (z x : Dk.Act) (hgd : o.guard = none) (p_ q_ : Operand) (ho : o.op = .store 34 p_ q_) (hx : a.eval p_ = .pointer (some ⟨W.heap.size, 0, none⟩)) (hy : a.eval q_ = .agg (aa x))
    (h : wpList Tryd.prog ops Q rest (a.put o.dst undef) (W.alloc (Obj.cells (aa x) 34 (0, 0)))) : wpList Tryd.prog ops Q (o :: rest) a (W.alloc (Obj.cells (aa z) 34 (0, 0))) :=
  wpList_plain hgd fun K hK => by
    unfold Oper.wp execOp
    simp only [ho, hx, hy]
    have e : (Instr.storeAt 34 (.pointer (some ⟨W.heap.size, 0, none⟩)) (.agg (aa x))).run Tryd.prog (W.alloc (Obj.cells (aa z) 34 (0, 0))) = .ok () (W.alloc (Obj.cells (aa x) 34 (0, 0))) := run_storeAt_new W 34 _ _ (by rw [sizeA, aa_size]) (by rw [aa_size, aa_size]) (aa_one x)
    simp only [e, Sem.run_bind, Sem.run_pure, Result.andThen_ok]
    exact hK _ _ h
end
/-- what stands in an act's variable -/
theorem act_cells {w : World} {b : Nat} {x : Dk.Act} (h : Hid (w.heap[b]? = some (Obj.cells (aa x) 34 (0, 0)))) : w.cell? ⟨b, 0, none⟩ = some (.int .u8 x.dO) ∧ w.cell? ⟨b, 1, none⟩ = some (.int .i64 x.at_) ∧ w.cell? ⟨b, 66, none⟩ = some (.int .u64 (x.mask : Int)) ∧ w.rangeAt b 2 (pcs x.p) := by
  refine ⟨Err.cell_of_blk h.out 0, Err.cell_of_blk h.out 1, ?_, ?_⟩
  · rw [Err.cell_of_blk h.out 66]
    show (acs x).toArray[66]? = _
    rw [List.getElem?_toArray]
    unfold acs
    rw [show (66 : Nat) = 64 + 1 + 1 from rfl, List.getElem?_cons_succ, List.getElem?_cons_succ, List.getElem?_append_right (by rw [pcs_length]; exact Nat.le_refl _), pcs_length]
    rfl
  · intro j u hu
    have hj : j < 64 := by have := (List.getElem?_eq_some_iff.1 hu).1; rw [pcs_length] at this; exact this
    rw [Err.cell_of_blk h.out (2 + j)]
    show (acs x).toArray[2 + j]? = _
    rw [List.getElem?_toArray]
    unfold acs
    rw [show 2 + j = j + 1 + 1 by omega, List.getElem?_cons_succ, List.getElem?_cons_succ, List.getElem?_append_left (by rw [pcs_length]; exact hj), hu]
end Go.Proofs.YtoanhafbofphgaaDoor.Rfd
