/- Words that the proof uses. -/
import Derived.Test.YtaodgnladjafoaaGreatDoorDisk01V
import Derived.Test.YtaodgnladjafoaaGreatDoorOpenV
import Derived.OpenShut
import Derived.Lib.SmallJoins
set_option linter.unusedVariables false
namespace Go.Proofs.YtaodgnladjafoaaGreatDoor.Dk
open Go.RowKit Go.Proofs.YtaodgnladjafoaaGreatDoorW.PrintWords Go.Proofs.YtaodgnladjafoaaGreatDoorW.PrintLast Go.Proofs.YtaodgnladjafoaaGreatDoor.Md
open Go.Extern.Stop (cell)
open Go.WideShapes
section
variable {H : Type} {enc : TypeId × Value → H} {w : World} {base : Nat} {spare : Nat → Bool} {held : Bool}
theorem page_ofB (cs : List Value) (hl : cs.length = 64) (h : ∀ i, i < 64 → ∃ n : Int, (cs.drop i).take 1 = [.int .u8 n] ∧ (Lit.int .u8 n).wf = true) : ∃ p : Pg, cs = pcs p := by
  refine ⟨⟨cs.map (fun v => match v with | .int .u8 n => UInt8.ofNat n.toNat | _ => 0), by simp [hl]⟩, ?_⟩
  apply List.ext_getElem
  · simp [pcs]
  · intro i h1 h2
    obtain ⟨n, hn, hw⟩ := h i (by omega)
    have hi : cs[i] = .int .u8 n := by
      have e : (cs.drop i).take 1 = [cs[i]] := by rw [List.drop_eq_getElem_cons h1]; rfl
      rw [e] at hn
      simpa using hn
    have hb : 0 ≤ n ∧ n ≤ 255 := by
      simp [Lit.wf, IntKind.min, IntKind.max, IntKind.bits, IntKind.signed] at hw
      omega
    simp only [pcs, List.getElem_map, hi, cell]
    congr 1
    have e : (UInt8.ofNat n.toNat).toNat = n.toNat := by
      rw [UInt8.toNat_ofNat']
      omega
    show n = ((UInt8.ofNat n.toNat).toNat : Int)
    rw [e]
    omega
set_option maxRecDepth 100000 in
theorem open_pageB {r : Reach} {b0 : Nat} {v : Value} {D : DataW H} {p : List MemPlace} (hv : Value.okWide Tryz.prog w r b0 58 v) (h : DataW.Trod enc Tryz.prog w base spare held 58 v D p) : ∃ q : Pg, v = pv q := by
  unfold Value.okWide at hv
  rw [Tryz.underlying58] at hv
  obtain ⟨cs, rfl, hsz, _⟩ := hv
  obtain ⟨fuel, hf⟩ := h
  obtain ⟨xs, m, _, _, hl, hx, hi⟩ := DataW.trod_array Tryz.underlying58 hf
  have h64 : Tryz.prog.cellsOf 58 = 64 := by kernel_rfl
  have h1 : Tryz.prog.cellsOf 5 = 1 := by kernel_rfl
  obtain ⟨q, hq⟩ := page_ofB _ (by rw [hl, h64]) (fun i hi64 => by
    have := hi i hi64
    rw [h1, Nat.mul_one, List.getElem?_eq_getElem (by omega)] at this
    obtain ⟨n, hn, _, hw⟩ := DataW.trod_int Tryz.underlying5 this
    exact ⟨n, hn, hw⟩)
  refine ⟨q, ?_⟩
  unfold pv pa
  congr 1
  apply Array.toList_inj.1
  simpa [Value.cells, pcs] using hq
end
end Go.Proofs.YtaodgnladjafoaaGreatDoor.Dk
