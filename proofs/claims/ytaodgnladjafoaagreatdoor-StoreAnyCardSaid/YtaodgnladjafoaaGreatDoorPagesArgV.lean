/- Words that the proof uses. -/
import Derived.Test.YtaodgnladjafoaaGreatDoorPageArgV
import Derived.Test.YtaodgnladjafoaaGreatDoorDisk25V
set_option linter.unusedVariables false
namespace Go.Proofs.YtaodgnladjafoaaGreatDoor.Dk
open Go.RowKit Go.Proofs.YtaodgnladjafoaaGreatDoorW.PrintWords Go.Proofs.YtaodgnladjafoaaGreatDoorW.PrintLast Go.Proofs.YtaodgnladjafoaaGreatDoorW.PrintMore Go.Proofs.YtaodgnladjafoaaGreatDoor.Md
open Go.Extern.Stop (cell)
open Go.WideShapes
def pgk : Kd Pg where
  sz := 64
  E := []
  K := fun _ x cs => cs = pcs x
  M := fun _ _ _ x cs => cs = pcs x
  K_len := fun h => by rw [h]; exact pcs_length _
  K_one := fun h u hu => by
    rw [h] at hu
    exact pcs_one _ u hu
  K_below := fun _ h => h
  K_of_M := fun h => h
  M_mono := fun _ h => h
  M_bound := fun h => h
  M_move := fun _ h => h
  M_lower := fun _ h => h
section
variable {H : Type} {enc : TypeId × Value → H} {w : World} {base : Nat} {spare : Nat → Bool} {held : Bool}
theorem trod_pageB {fuel : Nat} {cs : List Value} {x : DataW H × List MemPlace} (h : DataW.trod enc Tryz.prog w base spare held fuel 58 cs = some x) : ∃ p : Pg, cs = pcs p := by
  obtain ⟨xs, m, _, _, hl, hx, hi⟩ := DataW.trod_array Tryz.underlying58 h
  have h64 : Tryz.prog.cellsOf 58 = 64 := by kernel_rfl
  have h1 : Tryz.prog.cellsOf 5 = 1 := by kernel_rfl
  refine page_ofB cs (by rw [hl, h64]) (fun i hi64 => ?_)
  have := hi i hi64
  rw [h1, Nat.mul_one, List.getElem?_eq_getElem (by omega)] at this
  obtain ⟨n, hn, _, hw⟩ := DataW.trod_int Tryz.underlying5 this
  exact ⟨n, hn, hw⟩
theorem open_pages {a : Option Addr} {len cap : Nat} {D : DataW H} {p : List MemPlace}
    (h : DataW.Trod enc Tryz.prog w base spare held 59 (.slice a len cap) D p) : ∃ xs : List Pg, xs.length = len ∧ len ≤ cap ∧ Kd.C pgk w a len xs ∧ ∀ x ∈ xs, True :=
  Opn.open_CP pgk (fun _ => True) Tryz.underlying59 (by kernel_rfl) (fun n cs y hy => by
    obtain ⟨z, hz⟩ := trod_pageB hy
    exact ⟨z, hz, trivial⟩) h
end
theorem add_two (a : Addr) (x y : Nat) : (a.add x).add y = a.add (x + y) := by
  unfold Addr.add
  by_cases hx : x = 0
  · subst hx; simp
  · by_cases hy : y = 0
    · subst hy; simp
    · rw [if_neg hx, if_neg hy, if_neg (by omega), Nat.add_assoc]
theorem page_at {w : World} {A : Option Addr} {n : Nat} {l : List Pg} (h : Kd.C pgk w A n l) (j : Nat) (p : Pg) (hj : l[j]? = some p) : ∃ ad, A = some ad ∧ ∀ i v, (pcs p)[i]? = some v → w.cell? ((ad.add (j * 64)).add i) = some v := by
  obtain ⟨h1, _, h3⟩ := h
  have hl := (List.getElem?_eq_some_iff.1 hj).1
  obtain ⟨ad, e, hx⟩ := h3 (by omega)
  obtain ⟨cs, _, q2, q3⟩ := hx j p hj
  have q2 : cs = pcs p := q2
  subst q2
  exact ⟨ad, e, fun i v hv => by rw [add_two]; exact q3 i v hv⟩
section
variable {ops : Array Oper} {rest : List Oper} {o : Oper} {a : Go.Act} {w : World} {Q : Exit → Go.Act → World → Prop}
theorem wl_loadPg (p : Addr) (q : Pg) (h0 : ∀ i v, (pcs q)[i]? = some v → w.cell? (p.add i) = some v) (hgd : o.guard = none) (p_ : Operand) (ho : o.op = .load 58 p_) (hx : a.eval p_ = .pointer (some p))
    (h : wpList Tryz.prog ops Q rest (a.put o.dst (pv q)) w) : wpList Tryz.prog ops Q (o :: rest) a w := by
  refine Kd.event_run (v := pv q) (w1 := w) hgd ?_ h
  have hl : (loadCells p (pcs q).length).run Tryz.prog w = .ok (pcs q).toArray w := run_loadCells_list (P := Tryz.prog) w p (pcs q) h0
  rw [pcs_length] at hl
  have hagg := Tryz.isAgg58
  have hrun : (Instr.loadAt 58 (.pointer (some p))).run Tryz.prog w = .ok (pv q) w := by
    have hi : (Tryz.prog.info? 58).map (·.size) = some 64 := by kernel_rfl
    cases hq : Tryz.prog.info? 58 with
    | none => rw [hq] at hi; simp at hi
    | some i =>
      have hs : i.size = 64 := by rw [hq] at hi; simpa using hi
      simp only [Instr.loadAt, Instr.sureAddr, Sem.run_bind, Sem.run_pure, Result.andThen_ok]
      simp [loadVar, Sem.run_bind, hagg, sizeOf, typeInfo, hq, hs, hl]
      rfl
  unfold execOp
  simp only [ho, hx, hrun, Sem.run_bind, Sem.run_pure, Result.andThen_ok]
theorem wl_loadBx (b : Nat) (p : Pg) (hp : w.heap[b]? = some (Obj.cells (pa p) 58 (0, 0))) (hgd : o.guard = none) (x : Operand) (ho : o.op = .load 58 x) (hx : a.eval x = .pointer (some ⟨b, 0, none⟩))
    (h : wpList Tryz.prog ops Q rest (a.put o.dst (pv p)) w) : wpList Tryz.prog ops Q (o :: rest) a w := by
  refine Kd.event_run hgd ?_ h
  have hr : (Instr.loadAt 58 (.pointer (some ⟨b, 0, none⟩))).run Tryz.prog w = .ok (pv p) w := run_loadVar_row w b 58 58 (pa p) (0, 0) _ hp Tryz.underlying58 rfl (by
    have hi : (Tryz.prog.info? 58).map (·.size) = some 64 := by kernel_rfl
    rw [hi, pa_size])
  unfold execOp
  simp only [ho, hx, hr, Sem.run_bind, Sem.run_pure, Result.andThen_ok]
end
end Go.Proofs.YtaodgnladjafoaaGreatDoor.Dk
