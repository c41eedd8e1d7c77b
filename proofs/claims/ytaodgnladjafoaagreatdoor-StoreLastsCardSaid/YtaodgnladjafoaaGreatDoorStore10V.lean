/- Words that the proof uses. -/
import Derived.Test.YtaodgnladjafoaaGreatDoorStore9V
set_option linter.unusedVariables false
set_option linter.unusedSimpArgs false
namespace Go.Proofs.YtaodgnladjafoaaGreatDoor.Sto
open Go.RowKit Go.Proofs.YtaodgnladjafoaaGreatDoorW.PrintWords Go.Proofs.YtaodgnladjafoaaGreatDoorW.PrintLast Go.Proofs.YtaodgnladjafoaaGreatDoorW.PrintMore Go.Proofs.YtaodgnladjafoaaGreatDoor.Md Go.Proofs.YtaodgnladjafoaaGreatDoor.Mni Go.Proofs.YtaodgnladjafoaaGreatDoor.QStoreLasts
open Go.Proofs.YtaodgnladjafoaaGreatDoor.Dk (Dsk IsD Ft)
open Go.Proofs.YtaodgnladjafoaaGreatDoor.Slt (Sl switched switch_ok)
open Go.Proofs.YtaodgnladjafoaaGreatDoor.Err (Laid IsErr code_nil code_c Chain at_some at_nil)
def ManOut (w : World) (q : Pl) (o : Mni.Loc) (m : Man) : Prop := ∀ w2 : World, (∀ k, k < w.heap.size → ¬ Fs q k → w2.heap[k]? = w.heap[k]?) → w.heap.size ≤ w2.heap.size → At w2 o m
theorem ManOut.at {w : World} {q : Pl} {o : Mni.Loc} {m : Man} (h : ManOut w q o m) : At w o m := h w (fun _ _ _ => rfl) (Nat.le_refl _)
theorem ManOut.of {w w' : World} {q q' : Pl} {o : Mni.Loc} {m : Man} (h : ManOut w q o m) (k : Stp w q w' q') : ManOut w' q' o m := fun w2 h2 hs =>
 h w2 (fun i hi hf => (h2 i (Nat.lt_of_lt_of_le hi k.mod.size) (fun f => (k.foot i f).elim hf (fun e => by omega))).trans (k.mod.block i hi hf)) (Nat.le_trans k.mod.size hs)
theorem ManOut.on {w w' : World} {q : Pl} {o : Mni.Loc} {m : Man} (h : ManOut w q o m) (k : Below w.heap.size w w') : ManOut w' q o m := h.of (Stp.of_below k)
theorem copied_m (o : Mni.Loc) (m : Man) (hs : m.snaps = []) (w : World) (h : Hid (At w o m)) (hr : m.refs.length ≤ 1000000) (hk : m.stack.length ≤ 1000000) :
  Calls Tryz.prog 42 #[.agg (Loc.a o m)] w fun e w' => ∃ o', e = .returned (.agg (Loc.a o' m)) ∧ OwnM w.heap.size w' o' m ∧ Below w.heap.size w w' := by
 obtain ⟨refs, stack, upper, snaps⟩ := m
 cases hs
 exact copied_s o refs stack upper w h hr hk
theorem one_m (o : Mni.Loc) (m : Man) : ∀ v ∈ Array.toList (Loc.a o m), v.oneCell' = true := by
 intro v hv
 simp only [Loc.a, List.mem_cons, List.not_mem_nil, or_false] at hv
 rcases hv with rfl | rfl | rfl | rfl <;> rfl
theorem IsS.switchedM {w w' : World} {Z R M H B : Nat} {v p : Value} {o o2 : Mni.Loc} {m m2 : Man} {s : St} {g : Int} {r : Rf} (h : IsS w ⟨Z, R, M, H, v, p⟩ o m s) (k : Mod (· = Z) w w') (hb : w'.heap[Z]? = some (Obj.cells (sa ⟨Z, R, M, H, v, .slice none 0 0⟩ o2 m2 { s with gen := g, own := r, put := [] }) 82 (0, 0))) (hO : OwnM B w' o2 m2) (hB : ∀ i, Fs ⟨Z, R, M, H, v, .slice none 0 0⟩ i → i < B) :
  IsS w' ⟨Z, R, M, H, v, .slice none 0 0⟩ o2 m2 { s with gen := g, own := r, put := [] } ∧ Stp w ⟨Z, R, M, H, v, p⟩ w' ⟨Z, R, M, H, v, .slice none 0 0⟩ := by
 refine ⟨⟨hb, h.dsk.mod k (fun i hi e => (h.n2 i hi).1 e), h.held.mod k (fun e => h.n1 e.symm), Kd.R_nil _ _ _ _ _, fun w2 h2 _ => (hO.step (fun i hi hl => h2 i hl (fun f => by have := hB i f; omega))).at_, h.n1, fun i hi => ⟨(h.n2 i hi).1, (h.n2 i hi).2.1, fun e => by cases e⟩, fun e => (by cases e), fun e => (by cases e)⟩, k.mono (fun i _ e => .inl e), ?_⟩
 rintro i (hi | hi | hi | hi)
 ·exact .inl (.inl hi)
 ·exact .inl (.inr (.inl hi))
 ·exact .inl (.inr (.inr (.inl hi)))
 ·cases hi
end Go.Proofs.YtaodgnladjafoaaGreatDoor.Sto
