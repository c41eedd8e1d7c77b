/- Words that the proof uses. -/
import Derived.Test.YtaodgnladjafoaaGreatDoorStore10V
import Derived.Test.YtaodgnladjafoaaGreatDoorStore6V
import Derived.Test.YtaodgnladjafoaaGreatDoorManiDV
set_option linter.unusedVariables false
set_option linter.unusedSimpArgs false
namespace Go.Proofs.YtaodgnladjafoaaGreatDoor.Sto
open Go.RowKit Go.Proofs.YtaodgnladjafoaaGreatDoorW.PrintWords Go.Proofs.YtaodgnladjafoaaGreatDoorW.PrintLast Go.Proofs.YtaodgnladjafoaaGreatDoorW.PrintMore Go.Proofs.YtaodgnladjafoaaGreatDoor.Md Go.Proofs.YtaodgnladjafoaaGreatDoor.Mni Go.Proofs.YtaodgnladjafoaaGreatDoor.QStoreLasts
open Go.Proofs.YtaodgnladjafoaaGreatDoor.Dk (Dsk IsD Ft mayN)
open Go.Proofs.YtaodgnladjafoaaGreatDoor.Slt (Sl switched switch_ok best_c BestAt bestOf slA)
open Go.Proofs.YtaodgnladjafoaaGreatDoor.Err (Laid IsErr code_nil code_c Chain at_some at_nil)
theorem off_m (q : Pl) (o : Mni.Loc) (m : Man) (s : St) : ∀ j v, (Loc.a o m).toList[j]? = some v → (sa q o m s)[2 + j]? = some v := by
  intro j v hj
  rcases j with _ | _ | _ | _ | j
  · cases hj; rfl
  · cases hj; rfl
  · cases hj; rfl
  · cases hj; rfl
  · simp [Loc.a] at hj
theorem manifest_results (tmps : Array Value) (W : World) (b : Nat) (cs : Array Value) (hs : cs.size = 4) (h4 : tmps.getD 2 undef = .pointer (some ⟨b, 0, none⟩)) (h : W.heap[b]? = some (Obj.cells cs 43 (0, 0))) : (results Tryz.f17 tmps).run Tryz.prog W = .ok (.agg cs) W := by
  have hl : (loadVar 43 ⟨b, 0, none⟩).run Tryz.prog W = .ok (.agg cs) W := run_loadVar_row W b 43 43 cs (0, 0) _ h Tryz.underlying43 rfl (by rw [sizeM, hs])
  have h4' : tmps[2]?.getD undef = .pointer (some ⟨b, 0, none⟩) := by simpa using h4
  simp [results, Tryz.results17, asAddr, h4', hl]
theorem exec_loadX {ρ : Operand → Value} {oo : Oper} {x : Operand} {W : World} {b : Nat} {g u1 u2 u3 : Int} (ho : oo.op = .load 36 x) (hx : ρ x = .pointer (some ⟨b, 1, none⟩)) (hp : W.heap[b]? = some (Obj.cells (slA g u1 u2 u3) 62 (0, 0))) : (execOp ρ oo).run Tryz.prog W = .ok (.value (.agg (ra ⟨u1, u2, u3⟩))) W := by
  have h := run_load_off aggRf szRf W b 1 (slA g u1 u2 u3) 62 [.int .i64 u1, .int .i64 u2, .int .u32 u3] hp rfl (fun j v hj => by
    rcases j with _ | _ | _ | j
    · cases hj; rfl
    · cases hj; rfl
    · cases hj; rfl
    · simp at hj)
  unfold execOp; simp only [ho, hx, h, Sem.run_bind, Sem.run_pure, Result.andThen_ok]; rfl
theorem OwnM.of {B : Nat} {w : World} {o : Mni.Loc} {m : Man} (h : Mni.Own B w o m) (ha : At w o m) : OwnM B w o m := ⟨h.1, h.2.1, h.2.2, ha.rc, ha.sc, ha.nc⟩
def sO (d : Dsk) (sl : Sl) : St := { d := d, gen := sl.g, own := ⟨sl.x, sl.y, sl.z⟩, put := [], held := [] }
end Go.Proofs.YtaodgnladjafoaaGreatDoor.Sto
