/- Words that the proof uses. -/
import Derived.Test.YtaodgnladjafoaaGreatDoorStore4V
import Derived.Test.YtaodgnladjafoaaGreatDoorSlot67V
set_option linter.unusedVariables false
set_option linter.unusedSimpArgs false
namespace Go.Proofs.YtaodgnladjafoaaGreatDoor.Sto
open Go.RowKit Go.Proofs.YtaodgnladjafoaaGreatDoorW.PrintWords Go.Proofs.YtaodgnladjafoaaGreatDoorW.PrintLast Go.Proofs.YtaodgnladjafoaaGreatDoorW.PrintMore Go.Proofs.YtaodgnladjafoaaGreatDoor.Md Go.Proofs.YtaodgnladjafoaaGreatDoor.Mni Go.Proofs.YtaodgnladjafoaaGreatDoor.QStoreLasts
open Go.Proofs.YtaodgnladjafoaaGreatDoor.Dk (Dsk IsD Ft)
open Go.Proofs.YtaodgnladjafoaaGreatDoor.Slt (Sl switched switch_ok)
open Go.Proofs.YtaodgnladjafoaaGreatDoor.Err (Laid IsErr code_nil code_c Chain at_some at_nil)
def oE : Mni.Loc := ⟨none, 0, none, 0, none, 0⟩
abbrev eA : Array Value := #[.slice none 0 0, .slice none 0 0, .int .i64 (-1), .slice none 0 0]
theorem at_empty (w : World) : At w oE emptyM := ⟨(Kd.R_reads' (Kd.R_nil rk 36 w 0 (fun _ => True))).2.2, Nat.le_refl _, (Kd.R_reads' (Kd.R_nil (Kd.int .i64) 3 w 0 (fun _ => True))).2.2, Nat.le_refl _, (Kd.R_reads' (Kd.R_nil lk 40 w 0 (fun _ => True))).2.2, Nat.le_refl _⟩
theorem right_empty {n : Int} (h : 2 ≤ n ∧ n ≤ 2048) : rightM emptyM n = true := by
  unfold rightM
  rw [decide_eq_true h]
  rfl
def tE : ByteArray := ⟨#[0, 0, 0, 0]⟩
theorem pages_tE : Blb.pagesV (tE.size : Int) = ((1 : Nat) : Int) := by decide
theorem exec_loadRl {ρ : Operand → Value} {oo : Oper} {x : Operand} {W : World} {b : Nat} {r : Rf} (ho : oo.op = .load 36 x) (hx : ρ x = .pointer (some ⟨b, 0, none⟩)) (hp : W.heap[b]? = some (Obj.cells (ra r) 36 (0, 0))) : (execOp ρ oo).run Tryz.prog W = .ok (.value (.agg #[.int .i64 r.f0, .int .i64 r.f1, .int .u32 r.f2])) W := exec_loadR ho hx hp
theorem exec_store_off {ρ : Operand → Value} {oo : Oper} {T : TypeId} {n : Nat} (hsz : (Tryz.prog.info? T).map (·.size) = some n) {w : World} {b off : Nat} {cs : Array Value} {t : TypeId} {vs : List Value} {p q : Operand} (ho : oo.op = .store T p q) (hx : ρ p = .pointer (some ⟨b, off, none⟩)) (hy : ρ q = .agg vs.toArray) (hb : w.heap[b]? = some (Obj.cells cs t (0, 0))) (hn : vs.length = n) (hf : off + n ≤ cs.size) (h1 : ∀ v ∈ vs, v.oneCell' = true) : (execOp ρ oo).run Tryz.prog w = .ok .skip (w.setRow b (cs.toList.take off ++ vs ++ cs.toList.drop (off + vs.length)).toArray) := by
  unfold execOp
  simp only [ho, hx, hy, Sem.run_bind, run_store_off hsz w b off cs t vs hb hn hf h1, Result.andThen_ok]
  rfl
theorem alloc_size (w : World) (o : Obj) : (w.alloc o).heap.size = w.heap.size + 1 := Array.size_push _
set_option maxRecDepth 100000 in
theorem copied_results (tmps : Array Value) (W : World) (b : Nat) (cs : Array Value) (hs : cs.size = 4) (h4 : tmps.getD 2 undef = .pointer (some ⟨b, 0, none⟩)) (h : W.heap[b]? = some (Obj.cells cs 43 (0, 0))) : (results Tryz.f42 tmps).run Tryz.prog W = .ok (.agg cs) W := by
  have hl : (loadVar 43 ⟨b, 0, none⟩).run Tryz.prog W = .ok (.agg cs) W := run_loadVar_row W b 43 43 cs (0, 0) _ h Tryz.underlying43 rfl (by rw [sizeM, hs])
  have h4' : tmps[2]?.getD undef = .pointer (some ⟨b, 0, none⟩) := by simpa using h4
  simp [results, Tryz.results42, asAddr, h4', hl]
theorem st_off {T : TypeId} {n : Nat} (hsz : (Tryz.prog.info? T).map (·.size) = some n) {w : World} {b off : Nat} {cs : Array Value} {t : TypeId} {vs : List Value} (hb : w.heap[b]? = some (Obj.cells cs t (0, 0))) (hn : vs.length = n) (hf : off + n ≤ cs.size) (h1 : ∀ v ∈ vs, v.oneCell' = true) : ∃ w', (∀ {ρ : Operand → Value} {oo : Oper} {p q : Operand}, oo.op = .store T p q → ρ p = .pointer (some ⟨b, off, none⟩) → ρ q = .agg vs.toArray → (execOp ρ oo).run Tryz.prog w = .ok .skip w') ∧ w'.heap[b]? = some (Obj.cells (cs.toList.take off ++ vs ++ cs.toList.drop (off + vs.length)).toArray t (0, 0)) ∧ Mod (· = b) w w' :=
  ⟨_, fun ho hx hy => exec_store_off hsz ho hx hy hb hn hf h1, setRow_heap _ b _ _ _ _ hb, mod_row _ b _⟩
theorem one_r (r : Rf) : ∀ v ∈ Array.toList (ra r), v.oneCell' = true := by
  intro v hv
  simp only [ra, List.mem_cons, List.not_mem_nil, or_false] at hv
  rcases hv with rfl | rfl | rfl <;> rfl
def swS (s : St) (a : Int) : St := { d := switched { s.d with soft := s.d.soft ++ Blb.pgs tE a 1 } ⟨s.gen + 1, a, (tE.size : Int), AdM.sum tE⟩, gen := s.gen + 1, own := ⟨a, (tE.size : Int), AdM.sum tE⟩, put := [], held := s.held }
end Go.Proofs.YtaodgnladjafoaaGreatDoor.Sto
