/- Slots that came in: a slot, many, a sector's bytes. -/
import Derived.Test.YtkgiifcbimpcoaaDoorSlotA
import Derived.Test.YtkgiifcbimpcoaaDoorOpen
import Derived.OpenShut
import Derived.Lib.SmallJoins
set_option linter.unusedVariables false
namespace Go.Proofs.YtkgiifcbimpcoaaDoor.Slt
open Go.RowKit Go.Proofs.YtkgiifcbimpcoaaDoorW.PrintWords Go.Proofs.YtkgiifcbimpcoaaDoorW.PrintLast Go.Proofs.YtkgiifcbimpcoaaDoorW.PrintMore Go.Proofs.YtkgiifcbimpcoaaDoor.Md Go.Proofs.YtkgiifcbimpcoaaDoor.Dk
open Go.Extern.Stop (cell)
open Go.WideShapes
/-- what is known of a slot that came in -/
structure Wf (g x y z : Int) : Prop where
  g : (Lit.int .u32 g).wf = true
  x : (Lit.int .i64 x).wf = true
  y : (Lit.int .i64 y).wf = true
  z : (Lit.int .u32 z).wf = true
theorem Wf.bounds {g x y z : Int} (h : Wf g x y z) : (0 ≤ g ∧ g < 4294967296) ∧ (-9223372036854775808 ≤ x ∧ x < 9223372036854775808) ∧ (-9223372036854775808 ≤ y ∧ y < 9223372036854775808) ∧ (0 ≤ z ∧ z < 4294967296) := by
  obtain ⟨a, b, c, d⟩ := h
  simp [Lit.wf, IntKind.min, IntKind.max, IntKind.bits, IntKind.signed] at a b c d
  omega
section
variable {H : Type} {enc : TypeId × Value → H} {w : World} {base : Nat} {spare : Nat → Bool} {held : Bool}
theorem trod_slot {fuel : Nat} {cs : List Value} {u : DataW H × List MemPlace} (h : DataW.trod enc Tryd.prog w base spare held fuel 24 cs = some u) : ∃ g x y z : Int, cs = [.int .u32 g, .int .i64 x, .int .i64 y, .int .u32 z] ∧ Wf g x y z := by
  obtain ⟨y0, y1, y2, y3, n, _, hl, h0, h1, h2, h3⟩ := Go.Joins.trod_struct4 Tryd.underlying24 h
  have e4 : Tryd.prog.cellsOf 24 = 4 := by kernel_rfl
  have e2 : Tryd.prog.cellsOf 3 = 1 := by kernel_rfl
  have e3 : Tryd.prog.cellsOf 22 = 1 := by kernel_rfl
  simp only [e2, e3] at h0 h1 h2 h3
  obtain ⟨a0, c0, _, w0⟩ := DataW.trod_int Tryd.underlying22 h0
  obtain ⟨a1, c1, _, w1⟩ := DataW.trod_int Tryd.underlying3 h1
  obtain ⟨a2, c2, _, w2⟩ := DataW.trod_int Tryd.underlying3 h2
  obtain ⟨a3, c3, _, w3⟩ := DataW.trod_int Tryd.underlying22 h3
  rw [e4] at hl
  refine ⟨a0, a1, a2, a3, ?_, w0, w1, w2, w3⟩
  match cs, hl with
  | [v0, v1, v2, v3], _ =>
    simp at c0 c1 c2 c3
    rw [c0, c1, c2, c3]
set_option maxRecDepth 100000 in
theorem open_slot {r : Reach} {b0 : Nat} {v : Value} {D : DataW H} {p : List MemPlace} (hv : Value.okWide Tryd.prog w r b0 24 v) (h : DataW.Trod enc Tryd.prog w base spare held 24 v D p) : ∃ g x y z : Int, v = .agg (slA g x y z) ∧ Wf g x y z := by
  obtain ⟨cs, rfl, hsz⟩ := okWide_struct Tryd.underlying24 hv
  obtain ⟨fuel, hf⟩ := h
  obtain ⟨g, x, y, z, hc, hw⟩ := trod_slot hf
  exact ⟨g, x, y, z, by congr 1; apply Array.toList_inj.1; simpa [Value.cells] using hc, hw⟩
end
end Go.Proofs.YtkgiifcbimpcoaaDoor.Slt
