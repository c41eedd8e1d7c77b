/- Ops that came in: one, many. -/
import Derived.Test.YtabhfopmblaohaaDoorOper3
import Derived.Test.YtabhfopmblaohaaDoorOpen
import Derived.OpenShut
import Derived.Lib.SmallJoins
set_option linter.unusedVariables false
namespace Go.Proofs.YtabhfopmblaohaaDoor.Opr
open Go.RowKit Go.Proofs.YtabhfopmblaohaaDoorW.PrintWords Go.Proofs.YtabhfopmblaohaaDoorW.PrintLast Go.Proofs.YtabhfopmblaohaaDoorW.PrintMore Go.Proofs.YtabhfopmblaohaaDoor.Md
open Go.WideShapes
/-- what is known of an op that came in -/
structure Wf (o : Op) : Prop where
  d : (Lit.int .i64 o.d).wf = true
  n : (Lit.int .i64 o.n).wf = true
section
variable {H : Type} {enc : TypeId × Value → H} {w : World} {base : Nat} {spare : Nat → Bool} {held : Bool}
theorem trod5 {t : TypeId} {f0 f1 f2 f3 f4 : Field} {fuel : Nat} {cs : List Value} {x : DataW H × List MemPlace} (ht : Tryd.prog.underlying t = some (.struct #[f0, f1, f2, f3, f4])) (h : DataW.trod enc Tryd.prog w base spare held fuel t cs = some x) :
    ∃ y0 y1 y2 y3 y4 n, cs.length = Tryd.prog.cellsOf t ∧ x.1 = .agg [y0.1, y1.1, y2.1, y3.1, y4.1] ∧ DataW.trod enc Tryd.prog w base spare held n f0.type ((cs.drop f0.offset).take (Tryd.prog.cellsOf f0.type)) = some y0 ∧
      DataW.trod enc Tryd.prog w base spare held n f1.type ((cs.drop f1.offset).take (Tryd.prog.cellsOf f1.type)) = some y1 ∧ DataW.trod enc Tryd.prog w base spare held n f2.type ((cs.drop f2.offset).take (Tryd.prog.cellsOf f2.type)) = some y2 ∧
      DataW.trod enc Tryd.prog w base spare held n f3.type ((cs.drop f3.offset).take (Tryd.prog.cellsOf f3.type)) = some y3 ∧ DataW.trod enc Tryd.prog w base spare held n f4.type ((cs.drop f4.offset).take (Tryd.prog.cellsOf f4.type)) = some y4 := by
  obtain ⟨xs, n, _, rfl, hl, hlen, hf⟩ := DataW.trod_struct ht h
  match xs, hlen with
  | [y0, y1, y2, y3, y4], _ => exact ⟨y0, y1, y2, y3, y4, n, hl, by simp, by simpa using hf 0 f0 rfl, by simpa using hf 1 f1 rfl, by simpa using hf 2 f2 rfl, by simpa using hf 3 f3 rfl, by simpa using hf 4 f4 rfl⟩
theorem trod_op {fuel : Nat} {cs : List Value} {u : DataW H × List MemPlace} (h : DataW.trod enc Tryd.prog w base spare held fuel 23 cs = some u) : ∃ o : Op, cs = ocs o ∧ Wf o := by
  obtain ⟨y0, y1, y2, y3, y4, n, hl, hx, h0, h1, h2, h3, h4⟩ := trod5 Tryd.underlying23 h
  have e3 : Tryd.prog.cellsOf 23 = 5 := by kernel_rfl
  have e2 : Tryd.prog.cellsOf 3 = 1 := by kernel_rfl
  have e1 : Tryd.prog.cellsOf 9 = 1 := by kernel_rfl
  simp only [e2, e1] at h0 h1 h2 h3 h4
  obtain ⟨a0, c0, _, w0⟩ := DataW.trod_int Tryd.underlying3 h0
  obtain ⟨a1, c1, _⟩ := DataW.trod_string Tryd.underlying9 h1
  obtain ⟨a2, c2, _⟩ := DataW.trod_string Tryd.underlying9 h2
  obtain ⟨a3, c3, _, w3⟩ := DataW.trod_int Tryd.underlying3 h3
  obtain ⟨a4, c4, _⟩ := DataW.trod_string Tryd.underlying9 h4
  rw [e3] at hl
  refine ⟨⟨a0, a1, a2, a3, a4⟩, ?_, ⟨w0, w3⟩⟩
  match cs, hl with
  | [v0, v1, v2, v3, v4], _ =>
    simp at c0 c1 c2 c3 c4
    rw [c0, c1, c2, c3, c4]; rfl
set_option maxRecDepth 100000 in
theorem open_op {r : Reach} {b0 : Nat} {v : Value} {D : DataW H} {p : List MemPlace} (hv : Value.okWide Tryd.prog w r b0 23 v) (h : DataW.Trod enc Tryd.prog w base spare held 23 v D p) : ∃ o : Op, v = .agg o.a ∧ Wf o := by
  obtain ⟨cs, rfl, hsz⟩ := okWide_struct Tryd.underlying23 hv
  obtain ⟨fuel, hf⟩ := h
  obtain ⟨o, hc, hw⟩ := trod_op hf
  have hc' : cs.toList = o.a.toList := hc
  exact ⟨o, by rw [Array.toList_inj.1 hc'], hw⟩
theorem open_ops {a : Option Addr} {len cap : Nat} {D : DataW H} {p : List MemPlace}
    (h : DataW.Trod enc Tryd.prog w base spare held 34 (.slice a len cap) D p) : ∃ xs : List Op, xs.length = len ∧ len ≤ cap ∧ Kd.C opk w a len xs ∧ ∀ s ∈ xs, Wf s :=
  Opn.open_CP opk Wf Tryd.underlying34 (by kernel_rfl) (fun n cs y hy => trod_op hy) h
end
end Go.Proofs.YtabhfopmblaohaaDoor.Opr
