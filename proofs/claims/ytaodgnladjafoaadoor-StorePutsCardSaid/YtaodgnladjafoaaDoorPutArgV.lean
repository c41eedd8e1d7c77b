/- Acts of the store's law that came in. -/
import Derived.Test.YtaodgnladjafoaaDoorStorePuts0V
import Derived.Test.YtaodgnladjafoaaDoorOpenV
import Derived.OpenShut
import Derived.Lib.SmallJoins
set_option linter.unusedVariables false
namespace Go.Proofs.YtaodgnladjafoaaDoor.Sto
open Go.RowKit Go.Proofs.YtaodgnladjafoaaDoorW.PrintWords Go.Proofs.YtaodgnladjafoaaDoorW.PrintLast Go.Proofs.YtaodgnladjafoaaDoorW.PrintMore Go.Proofs.YtaodgnladjafoaaDoor.Md Go.Proofs.YtaodgnladjafoaaDoor.QStorePuts
open Go.WideShapes
section
variable {H : Type} {enc : TypeId × Value → H} {w : World} {base : Nat} {spare : Nat → Bool} {held : Bool}
theorem trod4 {t : TypeId} {f0 f1 f2 f3 : Field} {fuel : Nat} {cs : List Value} {x : DataW H × List MemPlace} (ht : Tryd.prog.underlying t = some (.struct #[f0, f1, f2, f3])) (h : DataW.trod enc Tryd.prog w base spare held fuel t cs = some x) :
    ∃ y0 y1 y2 y3 n, cs.length = Tryd.prog.cellsOf t ∧ x.1 = .agg [y0.1, y1.1, y2.1, y3.1] ∧ DataW.trod enc Tryd.prog w base spare held n f0.type ((cs.drop f0.offset).take (Tryd.prog.cellsOf f0.type)) = some y0 ∧
      DataW.trod enc Tryd.prog w base spare held n f1.type ((cs.drop f1.offset).take (Tryd.prog.cellsOf f1.type)) = some y1 ∧ DataW.trod enc Tryd.prog w base spare held n f2.type ((cs.drop f2.offset).take (Tryd.prog.cellsOf f2.type)) = some y2 ∧
      DataW.trod enc Tryd.prog w base spare held n f3.type ((cs.drop f3.offset).take (Tryd.prog.cellsOf f3.type)) = some y3 := by
  obtain ⟨xs, n, _, rfl, hl, hlen, hf⟩ := DataW.trod_struct ht h
  match xs, hlen with
  | [y0, y1, y2, y3], _ => exact ⟨y0, y1, y2, y3, n, hl, by simp, by simpa using hf 0 f0 rfl, by simpa using hf 1 f1 rfl, by simpa using hf 2 f2 rfl, by simpa using hf 3 f3 rfl⟩
theorem trod_ac {fuel : Nat} {cs : List Value} {u : DataW H × List MemPlace} (h : DataW.trod enc Tryd.prog w base spare held fuel 41 cs = some u) : ∃ o : Ac, ack.K w o cs := by
  obtain ⟨y0, y1, y2, y3, n, hl, hx, h0, h1, h2, h3⟩ := trod4 Tryd.underlying41 h
  have e4 : Tryd.prog.cellsOf 41 = 4 := by kernel_rfl
  have e8 : Tryd.prog.cellsOf 5 = 1 := by kernel_rfl
  have es : Tryd.prog.cellsOf 9 = 1 := by kernel_rfl
  have e64 : Tryd.prog.cellsOf 39 = 1 := by kernel_rfl
  simp only [e8, es, e64] at h0 h1 h2 h3
  obtain ⟨a0, c0, _, _⟩ := DataW.trod_int Tryd.underlying5 h0
  obtain ⟨a1, c1, _⟩ := DataW.trod_string Tryd.underlying9 h1
  obtain ⟨a2, c2, _, _⟩ := DataW.trod_int Tryd.underlying5 h2
  obtain ⟨a3, c3, _, _⟩ := DataW.trod_int Tryd.underlying39 h3
  rw [e4] at hl
  refine ⟨⟨a0, a1, a2, a3⟩, ?_⟩
  match cs, hl with
  | [v0, v1, v2, v3], _ =>
    simp at c0 c1 c2 c3
    rw [c0, c1, c2, c3]
    exact k41_mk w ⟨a0, a1, a2, a3⟩
theorem open_puts {a : Option Addr} {len cap : Nat} {D : DataW H} {p : List MemPlace}
    (h : DataW.Trod enc Tryd.prog w base spare held 22 (.slice a len cap) D p) : ∃ xs : List Ac, xs.length = len ∧ len ≤ cap ∧ Kd.C ack w a len xs :=
  Opn.open_C ack Tryd.underlying22 (by kernel_rfl) (fun n cs y hy => trod_ac hy) h
end
end Go.Proofs.YtaodgnladjafoaaDoor.Sto
