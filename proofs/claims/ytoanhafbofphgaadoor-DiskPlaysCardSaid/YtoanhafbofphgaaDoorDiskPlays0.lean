/- DiskPlays: the state of the law. -/
import Derived.Test.YtoanhafbofphgaaDoorRefD5
import Derived.Test.YtoanhafbofphgaaDoorRefD6
import Derived.Test.YtoanhafbofphgaaDoorRefD7
set_option linter.unusedVariables false
set_option linter.unusedSimpArgs false
namespace Go.Proofs.YtoanhafbofphgaaDoor.Rfd
open Go.RowKit Go.Proofs.YtoanhafbofphgaaDoorW.PrintWords Go.Proofs.YtoanhafbofphgaaDoorW.PrintLast Go.Proofs.YtoanhafbofphgaaDoorW.PrintMore Go.Proofs.YtoanhafbofphgaaDoor.Md Go.Proofs.YtoanhafbofphgaaDoor.Dk
open Go.Extern.Stop (cell)
open Go.Proofs.YtoanhafbofphgaaDoor.Err (Laid IsErr code_nil Chain at_some at_nil)
/-- the program's disk that the document's tells of -/
def RD.dsk (d : RD) : Dsk := ⟨d.size, rdl d.F, d.S, d.down, d.budget⟩
/-- the program's disk, and the document's in the variable X -/
structure Pl (W wr : World) (R M X : Nat) (v : Value) (r : RV) (D : Dsk) (d : RD) : Prop where
  bel : Below W.heap.size W wr
  dsk : IsD wr R M v D
  ref : IsR wr r d
  xx : wr.heap[X]? = some (Obj.cells r.a 49 (0, 0))
  fr : Fr W.heap.size R M v
  gx : W.heap.size ≤ X
/-- a block of a type that is none of the disk's -/
theorem ft_typed {w : World} {R M : Nat} {v : Value} {D : Dsk} (hd : IsD w R M v D) {b : Nat} {cs : Array Value} {t : TypeId} (hb : w.heap[b]? = some (Obj.cells cs t (0, 0))) (h1 : t ≠ 62) (h2 : t ≠ 67) : ¬ Ft R M v b := by
  rintro (rfl | rfl | e)
  · exact typed_ne hb hd.blk h1
  · obtain ⟨es, ck, g, _⟩ := hd.map
    rw [g] at hb; simp at hb
  · obtain ⟨_, inner, ho, _⟩ := hd.soft
    obtain ⟨cells, hc⟩ := own_typed ho b e
    exact typed_ne hb hc h2
section
variable {W wr w1 : World} {R M X : Nat} {v v1 : Value} {r r1 : RV} {D D1 : Dsk} {d d1 : RD}
theorem Pl.on (h : Pl W wr R M X v r D d) (k : Below wr.heap.size wr w1) : Pl W w1 R M X v r D d :=
  ⟨h.bel.trans (k.mono h.bel.size), h.dsk.on k, h.ref.on k, (k.block _ (Err.lt_of_block h.xx)).trans h.xx, h.fr, h.gx⟩
theorem Pl.keep (h : Pl W wr R M X v r D d) (k : Mod (Ft R M v) wr w1) {b : Nat} {cs : Array Value} {t : TypeId} (hb : wr.heap[b]? = some (Obj.cells cs t (0, 0))) (h1 : t ≠ 62) (h2 : t ≠ 67) : w1.heap[b]? = some (Obj.cells cs t (0, 0)) := k.blk hb (ft_typed h.dsk hb h1 h2)
/-- behind a call on the program's disk -/
theorem Pl.mods (h : Pl W wr R M X v r D d) (k : Mod (Ft R M v) wr w1) (hd : IsD w1 R M v1 D1) (hv : ∀ i, Ft R M v1 i → Ft R M v i ∨ wr.heap.size ≤ i) : Pl W w1 R M X v1 r D1 d :=
  ⟨h.bel.trans (k.below h.bel.size (fun i hi e => by have := h.fr i e; omega)), hd, h.ref.ft h.dsk k, h.keep k h.xx (by decide) (by decide), fun i hi => (hv i hi).elim (h.fr i) (fun e => Nat.le_trans h.bel.size e), h.gx⟩
/-- behind a store into X -/
theorem Pl.setX (h : Pl W wr R M X v r D d) (k : Mod (· = X) wr w1) (hx : w1.heap[X]? = some (Obj.cells r1.a 49 (0, 0))) (h1 : IsR wr r1 d1) : Pl W w1 R M X v r1 D d1 :=
  ⟨h.bel.trans (k.below h.bel.size (fun i hi (e : i = X) => by have := h.gx; omega)), h.dsk.mod k (fun i hi (e : i = X) => ft_typed h.dsk h.xx (by decide) (by decide) (e ▸ hi)), h1.blk h.xx (by decide) k, hx, h.fr, h.gx⟩
theorem Pl.apart (h : Pl W wr R M X v r D d) {b : Nat} {cs : Array Value} {t : TypeId} (k : Mod (· = X) wr w1) (hb : wr.heap[b]? = some (Obj.cells cs t (0, 0))) (ht : t ≠ 49) : w1.heap[b]? = some (Obj.cells cs t (0, 0)) :=
  k.blk hb (fun (e : b = X) => by subst e; exact typed_ne hb h.xx ht)
end
theorem ft_write {R M : Nat} {v v' : Value} {w : World} (hv : v'.ownBlock = v.ownBlock ∨ ∃ b, v'.ownBlock = some b ∧ w.heap.size ≤ b) : ∀ i, Ft R M v' i → Ft R M v i ∨ w.heap.size ≤ i := by
  rintro i (rfl | rfl | e)
  · exact .inl (.inl rfl)
  · exact .inl (.inr (.inl rfl))
  · rcases hv with g | ⟨b, g, hb⟩
    · exact .inl (.inr (.inr (by rw [← g]; exact e)))
    · rw [g] at e; cases e; exact .inr hb
theorem isErr_ft {w w' : World} {R M : Nat} {v u : Value} {d : Dsk} {n : Int} (h : IsErr w u n) (hd : IsD w R M v d) (k : Mod (Ft R M v) w w') : IsErr w' u n :=
  isErr_mod h k (fun b cs hb hf => ft_typed hd hb (by decide) (by decide) hf)
/-- Settle, as the document and as the program tell it -/
def RD.settled (d : RD) (mask : Nat) : RD := { d with F := d.F ++ kept mask d.S 0, S := [] }
theorem RD.settled_dsk (d : RD) (mask : Nat) : { d.dsk with firm := stl mask d.dsk.firm d.dsk.soft 0, soft := [] } = (d.settled mask).dsk := by
  unfold RD.dsk RD.settled
  simp only
  rw [stl_rdl]
theorem RD.rd_dsk (d : RD) (i : Int) : Dk.rd d.dsk i = rdl d.L i := rd_rdl d.F d.S d.size d.down d.budget i
end Go.Proofs.YtoanhafbofphgaaDoor.Rfd
