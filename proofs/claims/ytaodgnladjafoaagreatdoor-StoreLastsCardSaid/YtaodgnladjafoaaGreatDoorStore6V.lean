/- Words that the proof uses. -/
import Derived.Test.YtaodgnladjafoaaGreatDoorStore5V
import Derived.Test.YtaodgnladjafoaaGreatDoorErr2V
set_option linter.unusedVariables false
set_option linter.unusedSimpArgs false
namespace Go.Proofs.YtaodgnladjafoaaGreatDoor.Sto
open Go.RowKit Go.Proofs.YtaodgnladjafoaaGreatDoorW.PrintWords Go.Proofs.YtaodgnladjafoaaGreatDoorW.PrintLast Go.Proofs.YtaodgnladjafoaaGreatDoorW.PrintMore Go.Proofs.YtaodgnladjafoaaGreatDoor.Md Go.Proofs.YtaodgnladjafoaaGreatDoor.Mni Go.Proofs.YtaodgnladjafoaaGreatDoor.QStoreLasts
open Go.Proofs.YtaodgnladjafoaaGreatDoor.Dk (Dsk IsD Ft mayN)
open Go.Proofs.YtaodgnladjafoaaGreatDoor.Slt (Sl switched switch_ok best_c BestAt bestOf slA)
open Go.Proofs.YtaodgnladjafoaaGreatDoor.Err (Laid IsErr code_nil code_c Chain at_some at_nil)
def s0 (d : Dsk) : St := { d := d, gen := 0, own := zr, put := [], held := [] }
theorem off_e (q : Pl) (s : St) : ∀ j v, eA.toList[j]? = some v → (sa q oE emptyM s)[2 + j]? = some v := by
  intro j v hj
  rcases j with _ | _ | _ | _ | j
  · cases hj; rfl
  · cases hj; rfl
  · cases hj; rfl
  · cases hj; rfl
  · simp at hj
set_option maxHeartbeats 2000000 in
set_option maxRecDepth 100000 in
theorem made_ok (w : World) (R M : Nat) (v : Value) (d : Dsk) (h : Hid (IsD w R M v d)) (hsz : 8 ≤ d.size) :
    Calls Tryz.prog 32 #[.pointer (some ⟨R, 0, none⟩)] w fun e w' => ∃ Z H, w.heap.size ≤ Z ∧ w.heap.size ≤ H ∧ e = .returned (.tuple #[.pointer (some ⟨Z, 0, none⟩), .nilIface]) ∧ Below w.heap.size w w' ∧ IsS w' ⟨Z, R, M, H, v, .slice none 0 0⟩ oE emptyM (s0 d) := by
  have c1 : decide (d.size < 8) = false := decide_eq_false (by omega)
  have hmm := @run_makeMap Tryz.prog
  clear hsz
  go_enter Tryz.func32, Tryz.ntmps32
  go_wp2_with fail
  refine (Dk.size_c _ R M v d h).mono ?_
  rintro e w1 ⟨rfl, hd⟩
  have H1 := Lib.hid (h.out.on hd)
  have HB1 := Lib.hid hd
  clear hd h
  go_wp2_with fail
  go_ret2
  have hb : Below w1.heap.size w1 (w1.alloc (Obj.map #[] 0)) := (Below.refl _ _).alloc (Nat.le_refl _) _
  have hb2 := hb.alloc hb.size (Obj.cells (sa ⟨w1.heap.size + 1, R, M, w1.heap.size, v, .slice none 0 0⟩ oE emptyM (s0 d)) 82 (0, 0))
  have hsz1 : (w1.alloc (Obj.map #[] 0)).heap.size = w1.heap.size + 1 := alloc_size _ _
  refine ⟨w1.heap.size + 1, w1.heap.size, Nat.le_succ_of_le HB1.out.size, HB1.out.size, rfl, HB1.out.trans (hb2.mono HB1.out.size), ?_, H1.out.on hb2, ?_, Kd.R_nil _ _ _ _ _, fun w2 _ _ => at_empty w2, ?_, ?_, ?_, ?_⟩
  · have z := heap_alloc_last (w1.alloc (Obj.map #[] 0)) (Obj.cells (sa ⟨w1.heap.size + 1, R, M, w1.heap.size, v, .slice none 0 0⟩ oE emptyM (s0 d)) 82 (0, 0))
    rw [hsz1] at z
    exact z
  · have z := HeldAt.new w1
    exact z.mod ((Mod.refl (fun _ => False) _).alloc _) (fun f => f)
  · show w1.heap.size + 1 ≠ w1.heap.size
    omega
  · intro i hi
    have := H1.out.ft_lt i hi
    exact ⟨by show i ≠ w1.heap.size + 1; omega, by show i ≠ w1.heap.size; omega, fun e => by cases e⟩
  · exact fun e => by cases e
  · exact fun e => by cases e
theorem IsS.setGen {w : World} {Z R M H : Nat} {v p : Value} {o : Mni.Loc} {m : Man} {s : St} (g : Int) (h : IsS w ⟨Z, R, M, H, v, p⟩ o m s) : IsS (w.setCell ⟨Z, 1, none⟩ (.int .u32 g)) ⟨Z, R, M, H, v, p⟩ o m { s with gen := g } ∧ Stp w ⟨Z, R, M, H, v, p⟩ (w.setCell ⟨Z, 1, none⟩ (.int .u32 g)) ⟨Z, R, M, H, v, p⟩ := by
  have k := mod_cellZ w Z 1 (.int .u32 g)
  have hst : Stp w ⟨Z, R, M, H, v, p⟩ (w.setCell ⟨Z, 1, none⟩ (.int .u32 g)) ⟨Z, R, M, H, v, p⟩ := ⟨k.mono (fun i _ e => .inl e), fun i hi => .inl hi⟩
  refine ⟨⟨blk_setZ h.blk 1 _, h.dsk.mod k (fun i hi e => (h.n2 i hi).1 e), h.held.mod k (fun e => h.n1 e.symm), row_on (α := Rf) rfl h.put k (fun b hb (e : b = Z) => h.n3.1 (e ▸ hb)), h.man_of hst, h.n1, h.n2, h.n3⟩, hst⟩
end Go.Proofs.YtaodgnladjafoaaGreatDoor.Sto
