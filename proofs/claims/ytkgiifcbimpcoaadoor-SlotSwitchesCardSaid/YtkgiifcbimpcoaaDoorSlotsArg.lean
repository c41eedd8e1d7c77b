/- Many slots that came in. -/
import Derived.Test.YtkgiifcbimpcoaaDoorSlotByte
set_option linter.unusedVariables false
namespace Go.Proofs.YtkgiifcbimpcoaaDoor.Slt
open Go.RowKit Go.Proofs.YtkgiifcbimpcoaaDoorW.PrintWords Go.Proofs.YtkgiifcbimpcoaaDoorW.PrintLast Go.Proofs.YtkgiifcbimpcoaaDoorW.PrintMore Go.Proofs.YtkgiifcbimpcoaaDoor.Md Go.Proofs.YtkgiifcbimpcoaaDoor.Dk Go.Proofs.YtkgiifcbimpcoaaDoor.Blb
open Go.WideShapes
/-- the slot that counts, told by where the one and the other stand -/
theorem best_par {d : Dsk} {k : Int} (hk : k = 0 ∨ k = 1) {S T : Sl} (hS : slotOf (rd d k) = S) (hT : slotOf (rd d (1 - k)) = T) : bestOf d 2 = if k = 0 then pick (pick Sl.zero S) T else pick (pick Sl.zero T) S := by
  rcases hk with rfl | rfl
  · rw [if_pos rfl, bestOf_two, hS, ← hT]; rfl
  · rw [if_neg (by decide), bestOf_two, hS, ← hT]; rfl
theorem best_great {d : Dsk} {k : Int} (hk : k = 0 ∨ k = 1) {S T : Sl} (hS : slotOf (rd d k) = S) (hT : slotOf (rd d (1 - k)) = T) (h : T.g < S.g) (h0 : 0 ≤ T.g) : bestOf d 2 = S := by
  have hz : ∀ T : Sl, 0 ≤ T.g → (pick Sl.zero T).g = T.g := by
    intro T h0
    unfold pick
    split
    · rfl
    · rename_i hn; show (0 : Int) = T.g
      have : ¬ (0 : Int) < T.g := hn
      omega
  rw [best_par hk hS hT]
  split
  · rw [pick_z (by omega)]
    unfold pick
    exact if_neg (by omega)
  · unfold pick
    rw [if_pos]
    have := hz T h0
    unfold pick at this
    omega
theorem rd_one (d : Dsk) (A Bs : Sl) (hb : Bs.g = A.g + 1) (ha : 0 ≤ A.g) : rd (switched (switched d A) Bs) (Bs.g % 2) = Bs.lay ∧ rd (switched (switched d A) Bs) (1 - Bs.g % 2) = A.lay := by
  exact ⟨by rw [rd_switched, if_pos rfl], by rw [rd_switched, if_neg (by omega), rd_switched, if_pos (by omega)]⟩
theorem bu_one (d : Dsk) (s : Sl) (h : d.budget = -1) : (switched d s).budget = -1 := by
  show max (d.budget - 1) (-1) = -1
  rw [h]; decide
theorem neS_run (w : World) (x0 x1 x2 x3 y0 y1 y2 y3 : Int) : (binOp .neq 35 (.agg (slA x0 x1 x2 x3)) (.agg (slA y0 y1 y2 y3))).run Tryd.prog w = .ok (.bool (!(x0 == y0 && (x1 == y1 && (x2 == y2 && (x3 == y3)))))) w := by
  rw [run_neq_struct, eqS 9997]
  rfl
theorem wg_neS {ops : Array Oper} {rest : List Oper} {o : Oper} {a : Go.Act} {w : World} {Q : Exit → Go.Act → World → Prop} (x0 x1 x2 x3 y0 y1 y2 y3 : Int) (b : Bool) (hw : Region.wanted o (yielded ops a.tmps) = true) (x y : Operand) (ho : o.op = .binOp .neq 35 x y 35) (hx : a.eval x = .agg (slA x0 x1 x2 x3)) (hy : a.eval y = .agg (slA y0 y1 y2 y3)) (hb : (!(x0 == y0 && (x1 == y1 && (x2 == y2 && (x3 == y3))))) = b)
    (h : wpList Tryd.prog ops Q rest (a.put o.dst (.bool b)) w) : wpList Tryd.prog ops Q (o :: rest) a w :=
  wg_run hw (by unfold execOp; simp only [ho, hx, hy, eqG35 .neq x y x0 x1 x2 x3 y0 y1 y2 y3 w, neS_run w, Sem.run_bind, Sem.run_pure, Result.andThen_ok, hb]) h
theorem wg_eqS {ops : Array Oper} {rest : List Oper} {o : Oper} {a : Go.Act} {w : World} {Q : Exit → Go.Act → World → Prop} (x0 x1 x2 x3 y0 y1 y2 y3 : Int) (b : Bool) (hw : Region.wanted o (yielded ops a.tmps) = true) (x y : Operand) (ho : o.op = .binOp .eql 35 x y 35) (hx : a.eval x = .agg (slA x0 x1 x2 x3)) (hy : a.eval y = .agg (slA y0 y1 y2 y3)) (hb : (x0 == y0 && (x1 == y1 && (x2 == y2 && (x3 == y3)))) = b)
    (h : wpList Tryd.prog ops Q rest (a.put o.dst (.bool b)) w) : wpList Tryd.prog ops Q (o :: rest) a w :=
  wg_run hw (by unfold execOp; simp only [ho, hx, hy, eqG35 .eql x y x0 x1 x2 x3 y0 y1 y2 y3 w, eqS_run w, Sem.run_bind, Sem.run_pure, Result.andThen_ok, hb]) h
theorem eq_self4 (g x y z : Int) : (g == g && (x == x && (y == y && (z == z)))) = true := by simp
/-- the cells of a slot -/
def rcs (s : Sl) : List Value := [.int .u32 s.g, .int .i64 s.x, .int .i64 s.y, .int .u32 s.z]
def rk : Kd Sl where
  sz := 4
  E := []
  K := fun _ s cs => cs = rcs s
  M := fun _ _ _ s cs => cs = rcs s
  K_len := fun h => by rw [h]; rfl
  K_one := fun h u hu => by
    rw [h] at hu
    simp only [rcs, List.mem_cons] at hu
    rcases hu with rfl | rfl | rfl | rfl | h
    · rfl
    · rfl
    · rfl
    · rfl
    · cases h
  K_below := fun _ h => h
  K_of_M := fun h => h
  M_mono := fun _ h => h
  M_bound := fun h => h
  M_move := fun _ h => h
  M_lower := fun _ h => h
section
variable {H : Type} {enc : TypeId × Value → H} {w : World} {base : Nat} {spare : Nat → Bool} {held : Bool}
theorem open_slots {a : Option Addr} {len cap : Nat} {D : DataW H} {p : List MemPlace}
    (h : DataW.Trod enc Tryd.prog w base spare held 60 (.slice a len cap) D p) : ∃ xs : List Sl, xs.length = len ∧ len ≤ cap ∧ Kd.C rk w a len xs ∧ ∀ s ∈ xs, Wf s.g s.x s.y s.z :=
  Opn.open_CP rk (fun s => Wf s.g s.x s.y s.z) Tryd.underlying60 (by kernel_rfl) (fun n cs y hy => by
    obtain ⟨g, x, y, z, hz, hw⟩ := trod_slot hy
    exact ⟨⟨g, x, y, z⟩, hz, hw⟩) h
end
end Go.Proofs.YtkgiifcbimpcoaaDoor.Slt
