/- Words that the proof uses. -/
import Derived.Test.YtaodgnladjafoaaGreatDoorStore5V
import Derived.Lib.SliceRun
set_option linter.unusedVariables false
set_option linter.unusedSimpArgs false
namespace Go.Proofs.YtaodgnladjafoaaGreatDoor.Sto
open Go.RowKit Go.Proofs.YtaodgnladjafoaaGreatDoorW.PrintWords Go.Proofs.YtaodgnladjafoaaGreatDoorW.PrintLast Go.Proofs.YtaodgnladjafoaaGreatDoorW.PrintMore Go.Proofs.YtaodgnladjafoaaGreatDoor.Md Go.Proofs.YtaodgnladjafoaaGreatDoor.Mni Go.Proofs.YtaodgnladjafoaaGreatDoor.QStoreLasts
open Go.Proofs.YtaodgnladjafoaaGreatDoor.Dk (Dsk IsD Ft)
open Go.Proofs.YtaodgnladjafoaaGreatDoor.Slt (Sl switched switch_ok)
open Go.Proofs.YtaodgnladjafoaaGreatDoor.Err (Laid IsErr code_nil code_c Chain at_some at_nil)
theorem infoI : (Tryz.prog.info? 3).map (fun i => (i.zero, i.size, i.bytes)) = some (some (.int .i64 0), 1, 8) := by kernel_rfl
theorem infoLs : (Tryz.prog.info? 40).map (fun i => (i.zero, i.size, i.bytes)) = some (some (.slice none 0 0), 1, 24) := by kernel_rfl
theorem exec_nilsr {ρ : Operand → Value} {oo : Oper} {p q : Operand} {W : World} {A : Option Addr} {n c : Nat} (ho : oo.op = .binOp .eql 33 p q 33) (hx : ρ p = .slice A n c) (hy : ρ q = .slice none 0 0) : (execOp ρ oo).run Tryz.prog W = .ok (.value (.bool A.isNone)) W := by
  have h := Go.Lib.run_eql_slice_nil W 33 36 A n c 0 0 Tryz.underlying33
  have hg : (eqGuard .eql 33 p q (.slice A n c) (.slice none 0 0)).run Tryz.prog W = .ok () W := by kernel_rfl
  unfold execOp
  simp only [ho, hx, hy, hg, h, Sem.run_bind, Sem.run_pure, Result.andThen_ok]
theorem lit0_r {ρ : Operand → Value} {oo : Oper} (W : World) (ho : oo.op = .buildSlice 33 0 #[]) : (execOp ρ oo).run Tryz.prog W = .ok (.value (.slice (some ⟨W.heap.size, 0, none⟩) 0 0)) (W.alloc (.cells #[] 36)) := by
  unfold execOp; simp only [ho]; kernel_rfl
set_option maxHeartbeats 2000000 in
set_option maxRecDepth 100000 in
theorem clone_rR (A : Option Addr) (n c : Nat) (l : List Rf) (w : World) (h : Hid (Kd.C rk w A n l)) (hl : n ≤ 1000000) :
    Calls Tryz.prog 69 #[.slice A n c] w fun e w' => ∃ v, e = .returned v ∧ Kd.R rk 36 w' w.heap.size (fun _ => True) v l ∧ Below w.heap.size w w' := by
  have hn : l.length = n := h.out.1
  cases A with
  | none =>
    have h0 : l = [] := by
      cases l with
      | nil => rfl
      | cons x l =>
        have z := h.out.2.2 (by rw [← hn]; simp)
        obtain ⟨ad, e, _⟩ := z
        cases e
    subst h0
    clear hn hl
    go_enter Tryz.func69, Tryz.ntmps69
    go_wp2_with (first | (refine Kd.event_run rfl (exec_nilsr rfl rfl rfl) ?_))
    go_ret
    exact ⟨_, rfl, Kd.R_nil _ _ _ _ _, Below.refl _ _⟩
  | some ad =>
    have HN := Lib.hid hn
    clear hn
    go_enter Tryz.func69, Tryz.ntmps69
    go_wp2_with (first
      | (refine Kd.event_run rfl (exec_nilsr rfl rfl rfl) ?_)
      | ((with_reducible refine gate_dst (N := 5) rfl ?_)
         refine Kd.R_lit rk (w0 := w) w.heap.size 36 rfl (N := 5) rfl (xs := ([] : List Rf)) (inner := []) (ok := fun _ => True) (okp := fun _ => True) (lit0_r w rfl) (Reps.none _ _) (fun _ h => h) trivial (Below.refl _ _) (Nat.le_refl _) (by simp) ?_
         intro v1 w1 ho hb hg1 hn1
         have HO1 := Lib.hid ho
         have HB1 := Lib.hid hb
         clear ho hb hg1 hn1)
      | (at_builtin
         refine Kd.R_append_rows rk (w0 := w) w.heap.size rfl (.tmp 5) (.tmp 6) 33 36 (.agg #[.int .i64 0, .int .i64 0, .int .u32 0]) 24 rfl Tryz.underlying33 infoR rfl (by decide) (by decide) v1 [] l _ _ _ (fun _ => True) (fun _ => False) rfl rfl HO1.out (Kd.C_below h.out HB1.out) (fun y cs hy => by have e := k36_open hy; subst e; exact k36_mkM _ _ _ _) (fun _ h => h.elim) (fun _ _ => trivial) HB1.out HB1.out.size (show (0 + n) * 24 ≤ 140737488355328 by omega) ?_
         intro v2 w2 ho hb hg2 hn2
         rw [List.nil_append] at ho
         have HO2 := Lib.hid ho
         have HB2 := Lib.hid hb
         clear ho hb hg2 hn2))
    go_ret
    exact ⟨_, rfl, HO2.out, HB2.out⟩
theorem exec_nilsi {ρ : Operand → Value} {oo : Oper} {p q : Operand} {W : World} {A : Option Addr} {n c : Nat} (ho : oo.op = .binOp .eql 40 p q 40) (hx : ρ p = .slice A n c) (hy : ρ q = .slice none 0 0) : (execOp ρ oo).run Tryz.prog W = .ok (.value (.bool A.isNone)) W := by
  have h := Go.Lib.run_eql_slice_nil W 40 3 A n c 0 0 Tryz.underlying40
  have hg : (eqGuard .eql 40 p q (.slice A n c) (.slice none 0 0)).run Tryz.prog W = .ok () W := by kernel_rfl
  unfold execOp
  simp only [ho, hx, hy, hg, h, Sem.run_bind, Sem.run_pure, Result.andThen_ok]
theorem lit0_i {ρ : Operand → Value} {oo : Oper} (W : World) (ho : oo.op = .buildSlice 40 0 #[]) : (execOp ρ oo).run Tryz.prog W = .ok (.value (.slice (some ⟨W.heap.size, 0, none⟩) 0 0)) (W.alloc (.cells #[] 3)) := by
  unfold execOp; simp only [ho]; kernel_rfl
set_option maxHeartbeats 2000000 in
set_option maxRecDepth 100000 in
theorem clone_iR (A : Option Addr) (n c : Nat) (l : List Int) (w : World) (h : Hid (Kd.C (Kd.int .i64) w A n l)) (hl : n ≤ 1000000) :
    Calls Tryz.prog 70 #[.slice A n c] w fun e w' => ∃ v, e = .returned v ∧ Kd.R (Kd.int .i64) 3 w' w.heap.size (fun _ => True) v l ∧ Below w.heap.size w w' := by
  have hn : l.length = n := h.out.1
  cases A with
  | none =>
    have h0 : l = [] := by
      cases l with
      | nil => rfl
      | cons x l =>
        have z := h.out.2.2 (by rw [← hn]; simp)
        obtain ⟨ad, e, _⟩ := z
        cases e
    subst h0
    clear hn hl
    go_enter Tryz.func70, Tryz.ntmps70
    go_wp2_with (first | (refine Kd.event_run rfl (exec_nilsi rfl rfl rfl) ?_))
    go_ret
    exact ⟨_, rfl, Kd.R_nil _ _ _ _ _, Below.refl _ _⟩
  | some ad =>
    have HN := Lib.hid hn
    clear hn
    go_enter Tryz.func70, Tryz.ntmps70
    go_wp2_with (first
      | (refine Kd.event_run rfl (exec_nilsi rfl rfl rfl) ?_)
      | ((with_reducible refine gate_dst (N := 5) rfl ?_)
         refine Kd.R_lit (Kd.int .i64) (w0 := w) w.heap.size 3 rfl (N := 5) rfl (xs := ([] : List Int)) (inner := []) (ok := fun _ => True) (okp := fun _ => True) (lit0_i w rfl) (Reps.none _ _) (fun _ h => h) trivial (Below.refl _ _) (Nat.le_refl _) (by simp) ?_
         intro v1 w1 ho hb hg1 hn1
         have HO1 := Lib.hid ho
         have HB1 := Lib.hid hb
         clear ho hb hg1 hn1)
      | (at_builtin
         refine Kd.R_append_rows (Kd.int .i64) (w0 := w) w.heap.size rfl (.tmp 5) (.tmp 6) 40 3 (.int .i64 0) 8 rfl Tryz.underlying40 infoI rfl (by decide) (by decide) v1 [] l _ _ _ (fun _ => True) (fun _ => False) rfl rfl HO1.out (Kd.C_below h.out HB1.out) (fun _ _ h => h) (fun _ h => h.elim) (fun _ _ => trivial) HB1.out HB1.out.size (show (0 + n) * 8 ≤ 140737488355328 by omega) ?_
         intro v2 w2 ho hb hg2 hn2
         rw [List.nil_append] at ho
         have HO2 := Lib.hid ho
         have HB2 := Lib.hid hb
         clear ho hb hg2 hn2))
    go_ret
    exact ⟨_, rfl, HO2.out, HB2.out⟩
def OwnM (B : Nat) (w : World) (o : Mni.Loc) (m : Man) : Prop := Kd.F rk w (fun k => B ≤ k) o.p0 m.refs.length m.refs ∧ Kd.F (Kd.int .i64) w (fun k => B ≤ k) o.p1 m.stack.length m.stack ∧ Kd.F lk w (fun k => B ≤ k) o.p3 m.snaps.length m.snaps ∧ m.refs.length ≤ o.c0 ∧ m.stack.length ≤ o.c1 ∧ m.snaps.length ≤ o.c3
theorem own_F {α : Type} {d : Kd α} {e base n c : Nat} {w : World} {A : Option Addr} {xs : List α} (hE : d.E = []) (h : d.R e w base (fun _ => True) (.slice A n c) xs) : Kd.F d w (fun k => base ≤ k) A n xs :=
  Kd.R_F (Kd.R_mono (Kd.R_tight hE h) (fun k hk => Kd.R_base h k hk.symm))
theorem OwnM.at_ {B : Nat} {w : World} {o : Mni.Loc} {m : Man} (h : OwnM B w o m) : At w o m := ⟨Kd.F_now h.1, h.2.2.2.1, Kd.F_now h.2.1, h.2.2.2.2.1, Kd.F_now h.2.2.1, h.2.2.2.2.2⟩
theorem OwnM.step {B : Nat} {w w1 : World} {o : Mni.Loc} {m : Man} (h : OwnM B w o m) (k : ∀ i, B ≤ i → i < w.heap.size → w1.heap[i]? = w.heap[i]?) : OwnM B w1 o m := ⟨Kd.F_step h.1 k, Kd.F_step h.2.1 k, Kd.F_step h.2.2.1 k, h.2.2.2⟩
theorem C_to {α : Type} {d : Kd α} {w w1 : World} {A : Option Addr} {n : Nat} {xs : List α} (h : d.C w A n xs) (k : Below w.heap.size w w1) : d.C w1 A n xs := Kd.C_below h k
end Go.Proofs.YtaodgnladjafoaaGreatDoor.Sto
