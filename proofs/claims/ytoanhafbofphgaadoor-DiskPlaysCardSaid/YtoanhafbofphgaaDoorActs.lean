/- Acts that came in: a number, a sector's number, a sector's bytes, a mask. -/
import Derived.Test.YtoanhafbofphgaaDoorDisk0
import Derived.Test.YtoanhafbofphgaaDoorOpen
import Derived.OpenShut
import Derived.Lib.SmallJoins
set_option linter.unusedVariables false
namespace Go.Proofs.YtoanhafbofphgaaDoor.Dk
open Go.RowKit Go.Proofs.YtoanhafbofphgaaDoorW.PrintWords Go.Proofs.YtoanhafbofphgaaDoorW.PrintLast Go.Proofs.YtoanhafbofphgaaDoorW.PrintMore Go.Proofs.YtoanhafbofphgaaDoor.Md
open Go.Extern.Stop (cell)
structure Act where
  dO : Int
  at_ : Int
  p : Pg
  mask : Nat
def acs (x : Act) : List Value := .int .u8 x.dO :: .int .i64 x.at_ :: (pcs x.p ++ [.int .u64 (x.mask : Int)])
def ak : Kd Act where
  sz := 67
  E := []
  K := fun _ x cs => cs = acs x
  M := fun _ _ _ x cs => cs = acs x
  K_len := fun h => by rw [h]; simp [acs, pcs_length]
  K_one := fun h u hu => by
    rw [h] at hu
    simp only [acs, List.mem_cons, List.mem_append] at hu
    rcases hu with rfl | rfl | h | rfl | h
    · rfl
    · rfl
    · exact pcs_one _ u h
    · rfl
    · cases h
  K_below := fun _ h => h
  K_of_M := fun h => h
  M_mono := fun _ h => h
  M_bound := fun h => h
  M_move := fun _ h => h
  M_lower := fun _ h => h
section
variable {H : Type} {enc : TypeId × Value → H} {w : World} {base : Nat} {spare : Nat → Bool} {held : Bool}
theorem page_of (cs : List Value) (hl : cs.length = 64) (h : ∀ i, i < 64 → ∃ n : Int, (cs.drop i).take 1 = [.int .u8 n] ∧ (Lit.int .u8 n).wf = true) : ∃ p : Pg, cs = pcs p := by
  refine ⟨⟨cs.map (fun v => match v with | .int .u8 n => UInt8.ofNat n.toNat | _ => 0), by simp [hl]⟩, ?_⟩
  apply List.ext_getElem
  · simp [pcs]
  · intro i h1 h2
    obtain ⟨n, hn, hw⟩ := h i (by omega)
    have hi : cs[i] = .int .u8 n := by
      have e : (cs.drop i).take 1 = [cs[i]] := by rw [List.drop_eq_getElem_cons h1]; rfl
      rw [e] at hn
      simpa using hn
    have hb : 0 ≤ n ∧ n ≤ 255 := by
      simp [Lit.wf, IntKind.min, IntKind.max, IntKind.bits, IntKind.signed] at hw
      omega
    simp only [pcs, List.getElem_map, hi, cell]
    congr 1
    have e : (UInt8.ofNat n.toNat).toNat = n.toNat := by
      rw [UInt8.toNat_ofNat']
      omega
    show n = ((UInt8.ofNat n.toNat).toNat : Int)
    rw [e]
    omega
theorem trod_page {fuel : Nat} {cs : List Value} {x : DataW H × List MemPlace} (h : DataW.trod enc Tryd.prog w base spare held fuel 30 cs = some x) : ∃ p : Pg, cs = pcs p := by
  obtain ⟨xs, m, _, _, hl, hx, hi⟩ := DataW.trod_array Tryd.underlying30 h
  have h64 : Tryd.prog.cellsOf 30 = 64 := by kernel_rfl
  have h1 : Tryd.prog.cellsOf 5 = 1 := by kernel_rfl
  refine page_of cs (by rw [hl, h64]) (fun i hi64 => ?_)
  have := hi i hi64
  rw [h1, Nat.mul_one, List.getElem?_eq_getElem (by omega)] at this
  obtain ⟨n, hn, _, hw⟩ := DataW.trod_int Tryd.underlying5 this
  exact ⟨n, hn, hw⟩
theorem trod_act {fuel : Nat} {cs : List Value} {x : DataW H × List MemPlace} (h : DataW.trod enc Tryd.prog w base spare held fuel 34 cs = some x) :
    ∃ y : Act, cs = acs y ∧ (Lit.int .u8 y.dO).wf = true ∧ (Lit.int .i64 y.at_).wf = true ∧ y.mask < 2 ^ 64 := by
  obtain ⟨y0, y1, y2, y3, n, _, hl, h0, h1, h2, h3⟩ := Go.Joins.trod_struct4 Tryd.underlying34 h
  have e67 : Tryd.prog.cellsOf 34 = 67 := by kernel_rfl
  have e1 : Tryd.prog.cellsOf 5 = 1 := by kernel_rfl
  have e2 : Tryd.prog.cellsOf 3 = 1 := by kernel_rfl
  have e3 : Tryd.prog.cellsOf 30 = 64 := by kernel_rfl
  have e4 : Tryd.prog.cellsOf 32 = 1 := by kernel_rfl
  simp only [e1, e2, e3, e4] at h0 h1 h2 h3
  obtain ⟨a0, c0, _, w0⟩ := DataW.trod_int Tryd.underlying5 h0
  obtain ⟨a1, c1, _, w1⟩ := DataW.trod_int Tryd.underlying3 h1
  obtain ⟨p, c2⟩ := trod_page h2
  obtain ⟨a3, c3, _, w3⟩ := DataW.trod_int Tryd.underlying32 h3
  rw [e67] at hl
  have hm : 0 ≤ a3 ∧ a3 < 2 ^ 64 := by
    simp [Lit.wf, IntKind.min, IntKind.max, IntKind.bits, IntKind.signed] at w3
    omega
  refine ⟨⟨a0, a1, p, a3.toNat⟩, ?_, w0, w1, by show a3.toNat < _; omega⟩
  have hm' : ((a3.toNat : Nat) : Int) = a3 := by omega
  show cs = .int .u8 a0 :: .int .i64 a1 :: (pcs p ++ [.int .u64 ((a3.toNat : Nat) : Int)])
  rw [hm', ← c2, ← c3]
  simp only [List.drop_zero] at c0
  match cs, hl with
  | v0 :: v1 :: r, hl =>
    simp at c0 c1 hl
    rw [c0, c1]
    simp only [List.drop_succ_cons, List.drop_zero]
    have h65 : (r.drop 64).take 1 = r.drop 64 := List.take_of_length_le (by rw [List.length_drop]; omega)
    rw [h65, List.take_append_drop]
theorem open_acts {a : Option Addr} {len cap : Nat} {D : DataW H} {p : List MemPlace}
    (h : DataW.Trod enc Tryd.prog w base spare held 22 (.slice a len cap) D p) : ∃ xs : List Act, xs.length = len ∧ len ≤ cap ∧ Kd.C ak w a len xs ∧ ∀ x ∈ xs, (Lit.int .u8 x.dO).wf = true ∧ (Lit.int .i64 x.at_).wf = true ∧ x.mask < 2 ^ 64 :=
  Opn.open_CP ak (fun x => (Lit.int .u8 x.dO).wf = true ∧ (Lit.int .i64 x.at_).wf = true ∧ x.mask < 2 ^ 64) Tryd.underlying22 (by kernel_rfl) (fun n cs y hy => by
    obtain ⟨z, hz, hw⟩ := trod_act hy
    exact ⟨z, hz, hw⟩) h
end
end Go.Proofs.YtoanhafbofphgaaDoor.Dk
