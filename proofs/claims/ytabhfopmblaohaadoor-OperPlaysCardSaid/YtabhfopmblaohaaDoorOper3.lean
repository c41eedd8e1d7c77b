/- Ops' bytes tell ops apart (plain); ops held against each other. -/
import Derived.Test.YtabhfopmblaohaaDoorOper2
import Derived.Test.YtabhfopmblaohaaDoorReadAny
set_option linter.unusedVariables false
set_option linter.unusedSimpArgs false
namespace Go.Proofs.YtabhfopmblaohaaDoor.Opr
open Go.RowKit Go.Proofs.YtabhfopmblaohaaDoor.QOperBack Go.Proofs.YtabhfopmblaohaaDoorW.PrintWords Go.Proofs.YtabhfopmblaohaaDoorW.PrintLast Go.Proofs.YtabhfopmblaohaaDoorW.PrintMore Go.Proofs.YtabhfopmblaohaaDoor.CdM Go.Proofs.YtabhfopmblaohaaDoor.Md
open Go.WideShapes
open Go.Proofs.YtabhfopmblaohaaDoor.Err (Laid IsErr code_nil code_c Chain at_some at_nil)
theorem app_peel {a b u v : ByteArray} (hs : a.size = b.size) (h : a ++ u = b ++ v) : a = b ∧ u = v := by
  have h1 : a.data.toList ++ u.data.toList = b.data.toList ++ v.data.toList := by
    have := congrArg (fun x : ByteArray => x.data.toList) h
    simpa [ByteArray.data_append, Array.toList_append] using this
  have h2 := List.append_inj h1 (by simpa using hs)
  exact ⟨ByteArray.ext (Array.toList_inj.1 h2.1), ByteArray.ext (Array.toList_inj.1 h2.2)⟩
theorem emp_app (s : ByteArray) : (⟨#[]⟩ : ByteArray) ++ s = s := ByteArray.empty_append
theorem app_emp (s : ByteArray) : s ++ (⟨#[]⟩ : ByteArray) = s := ByteArray.append_empty
theorem stands_head (x : Nat) (u : ByteArray) : Rdr.Stands (numS x ++ u) 0 x := by
  have h := Rdr.stands_mid ⟨#[]⟩ u x
  rw [emp_app] at h
  exact h
theorem num_peel {x y : Nat} {u v : ByteArray} (h : numS x ++ u = numS y ++ v) : x = y ∧ u = v := by
  have h1 := stands_head x u
  rw [h] at h1
  have e := Rdr.stands_one h1 (stands_head y v)
  subst e
  exact ⟨rfl, (app_peel rfl h).2⟩
theorem str_peel {s t u v : ByteArray} (h : strS s ++ u = strS t ++ v) : s = t ∧ u = v := by
  unfold strS at h
  rw [ByteArray.append_assoc, ByteArray.append_assoc] at h
  obtain ⟨h1, h2⟩ := num_peel h
  exact app_peel h1 h2
theorem turnN_inj {m n : Int} (h : turnN m = turnN n) : m = n := by
  unfold turnN at h
  split at h <;> split at h <;> omega
theorem lay_app (o : Op) (r : ByteArray) : o.lay ++ r = numS o.d.toNat ++ (strS o.p ++ (strS o.q ++ (numS (turnN o.n) ++ (strS o.s ++ r)))) := by
  unfold Op.lay
  simp only [ByteArray.append_assoc]
/-- no op's bytes are the beginning of another one's -/
theorem lay_peel {a b : Op} (ha : a.Ok) (hb : b.Ok) {u v : ByteArray} (h : a.lay ++ u = b.lay ++ v) : a = b ∧ u = v := by
  rw [lay_app, lay_app] at h
  obtain ⟨h1, h⟩ := num_peel h
  obtain ⟨h2, h⟩ := str_peel h
  obtain ⟨h3, h⟩ := str_peel h
  obtain ⟨h4, h⟩ := num_peel h
  obtain ⟨h5, h⟩ := str_peel h
  refine ⟨Op.ext ?_ h2 h3 (turnN_inj h4) h5, h⟩
  have := ha.d0; have := hb.d0; omega
theorem lay_inj {a b : Op} (ha : a.Ok) (hb : b.Ok) (h : a.lay = b.lay) : a = b := by
  have h' : a.lay ++ ⟨#[]⟩ = b.lay ++ ⟨#[]⟩ := by rw [h]
  exact (lay_peel ha hb h').1
theorem lay_head {a b : Op} (ha : a.Ok) (hb : b.Ok) (hle : a.lay.size ≤ b.lay.size) (h : b.lay.extract 0 a.lay.size = a.lay) : a = b := by
  have e : b.lay = b.lay.extract 0 a.lay.size ++ b.lay.extract a.lay.size b.lay.size := by
    apply ByteArray.ext
    apply Array.toList_inj.1
    rw [ByteArray.data_append, Array.toList_append, ByteArray.data_extract, ByteArray.data_extract, Array.toList_extract, Array.toList_extract]
    simp only [List.extract_eq_take_drop, List.drop_zero, Nat.sub_zero]
    have hl : b.lay.size - a.lay.size = (b.lay.data.toList.drop a.lay.size).length := by simp
    rw [hl, List.take_length, List.take_append_drop]
  have e2 : a.lay ++ b.lay.extract a.lay.size b.lay.size = b.lay ++ ⟨#[]⟩ := by
    rw [app_emp]; conv => rhs; rw [e, h]
  exact (lay_peel ha hb e2).1
/- ops held against each other -/
def Op.beq (a b : Op) : Bool := a.d == b.d && (a.p.toList == b.p.toList && (a.q.toList == b.q.toList && (a.n == b.n && (a.s.toList == b.s.toList))))
theorem sl_iff (s t : ByteArray) : (s.toList == t.toList) = true ↔ s = t := by
  rw [beq_iff_eq, ByteArray.toList_eq, ByteArray.toList_eq]
  exact ⟨fun h => ByteArray.ext (Array.toList_inj.1 h), fun h => by rw [h]⟩
theorem sl_ne {s t : ByteArray} (h : s ≠ t) : (s.toList == t.toList) = false := by
  cases e : s.toList == t.toList with
  | false => rfl
  | true => exact absurd ((sl_iff s t).1 e) h
theorem sl_self (s : ByteArray) : (s.toList == s.toList) = true := (sl_iff s s).2 rfl
theorem sl_iff' (s t : ByteArray) : s.toList = t.toList ↔ s = t := by rw [← sl_iff, beq_iff_eq]
theorem Op.beq_iff (a b : Op) : a.beq b = true ↔ a = b := by
  unfold Op.beq
  simp only [Bool.and_eq_true, beq_iff_eq]
  constructor
  · rintro ⟨h1, h2, h3, h4, h5⟩; exact Op.ext h1 ((sl_iff' _ _).1 h2) ((sl_iff' _ _).1 h3) h4 ((sl_iff' _ _).1 h5)
  · rintro rfl; exact ⟨rfl, rfl, rfl, rfl, rfl⟩
theorem Op.beq_self (a : Op) : a.beq a = true := (Op.beq_iff a a).2 rfl
theorem Op.beq_ne {a b : Op} (h : a ≠ b) : a.beq b = false := by
  cases e : a.beq b with
  | false => rfl
  | true => exact absurd ((Op.beq_iff a b).1 e) h
theorem eqOpR (d : Nat) (w : World) (a b : Op) : (Op.equalIn (d + 2) 23 (.agg a.a) (.agg b.a)).run Tryd.prog w = .ok (a.beq b) w := by
  unfold Op.a Op.beq
  refine eqA_of Tryd.underlying23 (by kernel_rfl) ?_
  refine eqf_cons (by rfl) (by go_simp; rfl) (by go_simp; rfl) (by go_simp) ?_
  refine eqf_cons (by rfl) (by go_simp; rfl) (by go_simp; rfl) (by go_simp) ?_
  refine eqf_cons (by rfl) (by go_simp; rfl) (by go_simp; rfl) (by go_simp) ?_
  refine eqf_cons (by rfl) (by go_simp; rfl) (by go_simp; rfl) (by go_simp) ?_
  exact eqf_last (by rfl) (by go_simp; rfl) (by go_simp; rfl) (by go_simp)
theorem eqOpR_run (w : World) (a b : Op) : (binOp .eql 23 (.agg a.a) (.agg b.a)).run Tryd.prog w = .ok (.bool (a.beq b)) w := by
  rw [run_eql_struct, eqOpR 9998]
  rfl
theorem neOpR_run (w : World) (a b : Op) : (binOp .neq 23 (.agg a.a) (.agg b.a)).run Tryd.prog w = .ok (.bool (!(a.beq b))) w := by
  rw [run_neq_struct, eqOpR 9998]
  rfl
theorem eqGR (op : BinOp) (x y : Operand) (a b : Op) (w : World) : (eqGuard op 23 x y (.agg a.a) (.agg b.a)).run Tryd.prog w = .ok () w := run_eqGuard_agg w op 23 x y _ _ (by kernel_rfl)
theorem exec_eqOpR {ρ : Operand → Value} {oo : Oper} {x y : Operand} {W : World} {a b : Op} {v : Bool} (ho : oo.op = .binOp .eql 23 x y 23) (hx : ρ x = .agg a.a) (hy : ρ y = .agg b.a) (hb : a.beq b = v) : (execOp ρ oo).run Tryd.prog W = .ok (.value (.bool v)) W := by
  unfold execOp; simp only [ho, hx, hy, eqGR .eql x y a b W, eqOpR_run W, Sem.run_bind, Sem.run_pure, Result.andThen_ok, hb]
theorem exec_neOpR {ρ : Operand → Value} {oo : Oper} {x y : Operand} {W : World} {a b : Op} {v : Bool} (ho : oo.op = .binOp .neq 23 x y 23) (hx : ρ x = .agg a.a) (hy : ρ y = .agg b.a) (hb : (!(a.beq b)) = v) : (execOp ρ oo).run Tryd.prog W = .ok (.value (.bool v)) W := by
  unfold execOp; simp only [ho, hx, hy, eqGR .neq x y a b W, neOpR_run W, Sem.run_bind, Sem.run_pure, Result.andThen_ok, hb]
section
variable {ops : Array Oper} {rest : List Oper} {oo : Oper} {ac : Go.Act} {w : World} {Q : Exit → Go.Act → World → Prop}
theorem wl_eqOpR (a b : Op) (v : Bool) (hgd : oo.guard = none) (x y : Operand) (ho : oo.op = .binOp .eql 23 x y 23) (hx : ac.eval x = .agg a.a) (hy : ac.eval y = .agg b.a) (hb : a.beq b = v)
    (h : wpList Tryd.prog ops Q rest (ac.put oo.dst (.bool v)) w) : wpList Tryd.prog ops Q (oo :: rest) ac w := Kd.event_run hgd (exec_eqOpR ho hx hy hb) h
theorem wg_eqOpR (a b : Op) (v : Bool) (hw : Region.wanted oo (yielded ops ac.tmps) = true) (x y : Operand) (ho : oo.op = .binOp .eql 23 x y 23) (hx : ac.eval x = .agg a.a) (hy : ac.eval y = .agg b.a) (hb : a.beq b = v)
    (h : wpList Tryd.prog ops Q rest (ac.put oo.dst (.bool v)) w) : wpList Tryd.prog ops Q (oo :: rest) ac w := by
  have hrun := exec_eqOpR (ρ := ac.eval) (W := w) ho hx hy hb
  refine BigFrame.wpList_want hw fun K hK => ?_
  unfold Oper.wp
  rw [hrun]
  exact hK _ _ h
theorem wl_neOpR (a b : Op) (v : Bool) (hgd : oo.guard = none) (x y : Operand) (ho : oo.op = .binOp .neq 23 x y 23) (hx : ac.eval x = .agg a.a) (hy : ac.eval y = .agg b.a) (hb : (!(a.beq b)) = v)
    (h : wpList Tryd.prog ops Q rest (ac.put oo.dst (.bool v)) w) : wpList Tryd.prog ops Q (oo :: rest) ac w := Kd.event_run hgd (exec_neOpR ho hx hy hb) h
theorem wg_neOpR (a b : Op) (v : Bool) (hw : Region.wanted oo (yielded ops ac.tmps) = true) (x y : Operand) (ho : oo.op = .binOp .neq 23 x y 23) (hx : ac.eval x = .agg a.a) (hy : ac.eval y = .agg b.a) (hb : (!(a.beq b)) = v)
    (h : wpList Tryd.prog ops Q rest (ac.put oo.dst (.bool v)) w) : wpList Tryd.prog ops Q (oo :: rest) ac w := by
  have hrun := exec_neOpR (ρ := ac.eval) (W := w) ho hx hy hb
  refine BigFrame.wpList_want hw fun K hK => ?_
  unfold Oper.wp
  rw [hrun]
  exact hK _ _ h
end
theorem eqOpO (d : Nat) (w : World) (a b : Op) : (Op.equalIn (d + 2) 30 (.agg a.a) (.agg b.a)).run Tryd.prog w = .ok (a.beq b) w := by
  unfold Op.a Op.beq
  refine eqA_of Tryd.underlying30 (by kernel_rfl) ?_
  refine eqf_cons (by rfl) (by go_simp; rfl) (by go_simp; rfl) (by go_simp) ?_
  refine eqf_cons (by rfl) (by go_simp; rfl) (by go_simp; rfl) (by go_simp) ?_
  refine eqf_cons (by rfl) (by go_simp; rfl) (by go_simp; rfl) (by go_simp) ?_
  refine eqf_cons (by rfl) (by go_simp; rfl) (by go_simp; rfl) (by go_simp) ?_
  exact eqf_last (by rfl) (by go_simp; rfl) (by go_simp; rfl) (by go_simp)
theorem eqOpO_run (w : World) (a b : Op) : (binOp .eql 30 (.agg a.a) (.agg b.a)).run Tryd.prog w = .ok (.bool (a.beq b)) w := by
  rw [run_eql_struct, eqOpO 9998]
  rfl
theorem neOpO_run (w : World) (a b : Op) : (binOp .neq 30 (.agg a.a) (.agg b.a)).run Tryd.prog w = .ok (.bool (!(a.beq b))) w := by
  rw [run_neq_struct, eqOpO 9998]
  rfl
theorem eqGO (op : BinOp) (x y : Operand) (a b : Op) (w : World) : (eqGuard op 30 x y (.agg a.a) (.agg b.a)).run Tryd.prog w = .ok () w := run_eqGuard_agg w op 30 x y _ _ (by kernel_rfl)
theorem exec_eqOpO {ρ : Operand → Value} {oo : Oper} {x y : Operand} {W : World} {a b : Op} {v : Bool} (ho : oo.op = .binOp .eql 30 x y 30) (hx : ρ x = .agg a.a) (hy : ρ y = .agg b.a) (hb : a.beq b = v) : (execOp ρ oo).run Tryd.prog W = .ok (.value (.bool v)) W := by
  unfold execOp; simp only [ho, hx, hy, eqGO .eql x y a b W, eqOpO_run W, Sem.run_bind, Sem.run_pure, Result.andThen_ok, hb]
theorem exec_neOpO {ρ : Operand → Value} {oo : Oper} {x y : Operand} {W : World} {a b : Op} {v : Bool} (ho : oo.op = .binOp .neq 30 x y 30) (hx : ρ x = .agg a.a) (hy : ρ y = .agg b.a) (hb : (!(a.beq b)) = v) : (execOp ρ oo).run Tryd.prog W = .ok (.value (.bool v)) W := by
  unfold execOp; simp only [ho, hx, hy, eqGO .neq x y a b W, neOpO_run W, Sem.run_bind, Sem.run_pure, Result.andThen_ok, hb]
section
variable {ops : Array Oper} {rest : List Oper} {oo : Oper} {ac : Go.Act} {w : World} {Q : Exit → Go.Act → World → Prop}
theorem wl_eqOpO (a b : Op) (v : Bool) (hgd : oo.guard = none) (x y : Operand) (ho : oo.op = .binOp .eql 30 x y 30) (hx : ac.eval x = .agg a.a) (hy : ac.eval y = .agg b.a) (hb : a.beq b = v)
    (h : wpList Tryd.prog ops Q rest (ac.put oo.dst (.bool v)) w) : wpList Tryd.prog ops Q (oo :: rest) ac w := Kd.event_run hgd (exec_eqOpO ho hx hy hb) h
theorem wg_eqOpO (a b : Op) (v : Bool) (hw : Region.wanted oo (yielded ops ac.tmps) = true) (x y : Operand) (ho : oo.op = .binOp .eql 30 x y 30) (hx : ac.eval x = .agg a.a) (hy : ac.eval y = .agg b.a) (hb : a.beq b = v)
    (h : wpList Tryd.prog ops Q rest (ac.put oo.dst (.bool v)) w) : wpList Tryd.prog ops Q (oo :: rest) ac w := by
  have hrun := exec_eqOpO (ρ := ac.eval) (W := w) ho hx hy hb
  refine BigFrame.wpList_want hw fun K hK => ?_
  unfold Oper.wp
  rw [hrun]
  exact hK _ _ h
theorem wl_neOpO (a b : Op) (v : Bool) (hgd : oo.guard = none) (x y : Operand) (ho : oo.op = .binOp .neq 30 x y 30) (hx : ac.eval x = .agg a.a) (hy : ac.eval y = .agg b.a) (hb : (!(a.beq b)) = v)
    (h : wpList Tryd.prog ops Q rest (ac.put oo.dst (.bool v)) w) : wpList Tryd.prog ops Q (oo :: rest) ac w := Kd.event_run hgd (exec_neOpO ho hx hy hb) h
theorem wg_neOpO (a b : Op) (v : Bool) (hw : Region.wanted oo (yielded ops ac.tmps) = true) (x y : Operand) (ho : oo.op = .binOp .neq 30 x y 30) (hx : ac.eval x = .agg a.a) (hy : ac.eval y = .agg b.a) (hb : (!(a.beq b)) = v)
    (h : wpList Tryd.prog ops Q rest (ac.put oo.dst (.bool v)) w) : wpList Tryd.prog ops Q (oo :: rest) ac w := by
  have hrun := exec_neOpO (ρ := ac.eval) (W := w) ho hx hy hb
  refine BigFrame.wpList_want hw fun K hK => ?_
  unfold Oper.wp
  rw [hrun]
  exact hK _ _ h
end
end Go.Proofs.YtabhfopmblaohaaDoor.Opr
