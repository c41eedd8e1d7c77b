/- A manifest that came in. -/
import Derived.Test.YtpijilfkmkdghaaDoorMani6
import Derived.Test.YtpijilfkmkdghaaDoorOpen
import Derived.OpenShut
import Derived.Lib.SmallJoins
import Derived.Deep.Strs
set_option linter.unusedVariables false
namespace Go.Proofs.YtpijilfkmkdghaaDoor.Mni
open Go.RowKit Go.Proofs.YtpijilfkmkdghaaDoorW.PrintWords Go.Proofs.YtpijilfkmkdghaaDoorW.PrintLast Go.Proofs.YtpijilfkmkdghaaDoorW.PrintMore Go.Proofs.YtpijilfkmkdghaaDoor.Md Go.Proofs.YtpijilfkmkdghaaDoor.QManiBack
open Go.WideShapes
/-- what is known of a manifest that came in -/
structure Wf (w : World) (o : Loc) (g : Arg) : Prop where
  at_ : At2 w o g
  sums : ∀ r ∈ g.refs, 0 ≤ r.f2 ∧ r.f2 ≤ 4294967295
section
variable {H : Type} {enc : TypeId × Value → H} {w : World} {base : Nat} {spare : Nat → Bool} {held : Bool}
theorem open_row {α : Type} (d : Kd α) (Pp : α → Prop) {t e : TypeId} (ht : Tryd.prog.underlying t = some (.slice e)) (hC : Tryd.prog.cellsOf e = d.sz)
    (hel : ∀ (n : Nat) (cs : List Value) (y : DataW H × List MemPlace), DataW.trod enc Tryd.prog w base spare held n e cs = some y → ∃ x, d.K w x cs ∧ Pp x)
    {n : Nat} {cs : List Value} {y : DataW H × List MemPlace} (h : DataW.trod enc Tryd.prog w base spare held n t cs = some y) : ∃ A c xs, cs = [.slice A xs.length c] ∧ xs.length ≤ c ∧ d.C w A xs.length xs ∧ ∀ x ∈ xs, Pp x := by
  obtain ⟨A, l, c, hcs⟩ : ∃ A l c, cs = [.slice A l c] := by
    rcases Go.Deep.open_slice ht h with ⟨hcs, _⟩ | ⟨ad, l, c, m, n2, Dd, Pl, hcs, _⟩
    · exact ⟨_, _, _, hcs⟩
    · exact ⟨_, _, _, hcs⟩
  subst hcs
  obtain ⟨xs, h1, h2, h3, h4⟩ := Opn.open_CP (D := y.1) (p := y.2) d Pp ht hC hel ⟨n, h⟩
  subst h1
  exact ⟨A, c, xs, rfl, h2, h3, h4⟩
theorem trod_ref {fuel : Nat} {cs : List Value} {u : DataW H × List MemPlace} (h : DataW.trod enc Tryd.prog w base spare held fuel 36 cs = some u) : ∃ r : Rg, gk.K w r cs ∧ (0 ≤ r.f2 ∧ r.f2 ≤ 4294967295) := by
  obtain ⟨y0, y1, y2, n, _, hl, h0, h1, h2⟩ := Go.Deep.trod_struct3 Tryd.underlying36 h
  have e3 : Tryd.prog.cellsOf 36 = 3 := by kernel_rfl
  have e1 : Tryd.prog.cellsOf 3 = 1 := by kernel_rfl
  have e2 : Tryd.prog.cellsOf 34 = 1 := by kernel_rfl
  simp only [e1, e2] at h0 h1 h2
  obtain ⟨a0, c0, _, w0⟩ := DataW.trod_int Tryd.underlying3 h0
  obtain ⟨a1, c1, _, w1⟩ := DataW.trod_int Tryd.underlying3 h1
  obtain ⟨a2, c2, _, w2⟩ := DataW.trod_int Tryd.underlying34 h2
  rw [e3] at hl
  have hm : 0 ≤ a2 ∧ a2 ≤ 4294967295 := by
    simp [Lit.wf, IntKind.min, IntKind.max, IntKind.bits, IntKind.signed] at w2
    omega
  refine ⟨⟨a0, a1, a2⟩, ?_, hm⟩
  match cs, hl with
  | [v0, v1, v2], _ =>
    simp at c0 c1 c2
    rw [c0, c1, c2]
    exact k36_mk w ⟨a0, a1, a2⟩
theorem trod_one {fuel : Nat} {cs : List Value} {u : DataW H × List MemPlace} (h : DataW.trod enc Tryd.prog w base spare held fuel 3 cs = some u) : ∃ x : Int, (Kd.int .i64).K w x cs ∧ True := by
  obtain ⟨a0, c0, _, w0⟩ := DataW.trod_int Tryd.underlying3 h
  exact ⟨a0, c0, trivial⟩
theorem trod_list {fuel : Nat} {cs : List Value} {u : DataW H × List MemPlace} (h : DataW.trod enc Tryd.prog w base spare held fuel 23 cs = some u) : ∃ x : List Int, lk.K w x cs ∧ True := by
  obtain ⟨A, c, xs, rfl, h1, h2, _⟩ := open_row (Kd.int .i64) (fun _ => True) Tryd.underlying23 (by kernel_rfl) (fun n cs y hy => trod_one hy) h
  exact ⟨xs, ⟨A, c, rfl, h1, h2⟩, trivial⟩
set_option maxRecDepth 100000 in
theorem open_man {r : Reach} {b0 : Nat} {v : Value} {D : DataW H} {p : List MemPlace} (hv : Value.okWide Tryd.prog w r b0 26 v) (h : DataW.Trod enc Tryd.prog w base spare held 26 v D p) : ∃ (o : Loc) (g : Arg), v = .agg (o.b g) ∧ Wf w o g := by
  obtain ⟨cs, rfl, hsz⟩ := okWide_struct Tryd.underlying26 hv
  obtain ⟨fuel, hf⟩ := h
  obtain ⟨y0, y1, y2, y3, n, _, hl, h0, h1, h2, h3⟩ := Go.Joins.trod_struct4 Tryd.underlying26 hf
  have e4 : Tryd.prog.cellsOf 26 = 4 := by kernel_rfl
  have e1 : Tryd.prog.cellsOf 22 = 1 := by kernel_rfl
  have e2 : Tryd.prog.cellsOf 23 = 1 := by kernel_rfl
  have e3 : Tryd.prog.cellsOf 3 = 1 := by kernel_rfl
  have e5 : Tryd.prog.cellsOf 24 = 1 := by kernel_rfl
  simp only [e1, e2, e3, e5] at h0 h1 h2 h3
  obtain ⟨A0, c0, x0, g0, l0, k0, s0⟩ := open_row gk (fun r => 0 ≤ r.f2 ∧ r.f2 ≤ 4294967295) Tryd.underlying22 (by kernel_rfl) (fun n cs y hy => trod_ref hy) h0
  obtain ⟨A1, c1, x1, g1, l1, k1, s1⟩ := open_row (Kd.int .i64) (fun _ => True) Tryd.underlying23 (by kernel_rfl) (fun n cs y hy => trod_one hy) h1
  obtain ⟨a2, g2, _, w2⟩ := DataW.trod_int Tryd.underlying3 h2
  obtain ⟨A3, c3, x3, g3, l3, k3, s3⟩ := open_row lk (fun _ => True) Tryd.underlying24 (by kernel_rfl) (fun n cs y hy => trod_list hy) h3
  rw [e4] at hl
  refine ⟨⟨A0, c0, A1, c1, A3, c3⟩, ⟨x0, x1, a2, x3⟩, ?_, ⟨⟨k0, l0, k1, l1, k3, l3⟩, s0⟩⟩
  have hl' : cs.toList.length = 4 := hl
  have hc' : cs.toList = (Loc.b ⟨A0, c0, A1, c1, A3, c3⟩ ⟨x0, x1, a2, x3⟩).toList := by
    show (Value.agg cs).cells.toList = _
    clear hl' hf
    generalize (Value.agg cs).cells.toList = q at *
    match q, hl with
    | [v0, v1, v2, v3], _ =>
      simp at g0 g1 g2 g3
      rw [g0, g1, g2, g3]
      rfl
  rw [Array.toList_inj.1 hc']
end
end Go.Proofs.YtpijilfkmkdghaaDoor.Mni
