/- Words that the proof uses. -/
import Derived.Test.YtaodgnladjafoaaGreatDoorHeldV
import Derived.Test.YtaodgnladjafoaaGreatDoorBlob23V
set_option linter.unusedVariables false
set_option linter.unusedSimpArgs false
namespace Go.Proofs.YtaodgnladjafoaaGreatDoor.Sto
open Go.RowKit Go.Proofs.YtaodgnladjafoaaGreatDoorW.PrintWords Go.Proofs.YtaodgnladjafoaaGreatDoorW.PrintLast Go.Proofs.YtaodgnladjafoaaGreatDoorW.PrintMore Go.Proofs.YtaodgnladjafoaaGreatDoor.Md Go.Proofs.YtaodgnladjafoaaGreatDoor.Mni
open Go.Proofs.YtaodgnladjafoaaGreatDoor.Dk (Dsk IsD Ft)
theorem run_load_off {T : TypeId} {n : Nat} (hagg : ∀ w : World, (isAgg T).run Tryz.prog w = .ok true w) (hsz : (Tryz.prog.info? T).map (·.size) = some n) (w : World) (b off : Nat) (cs : Array Value) (t : TypeId) (vs : List Value) (hb : w.heap[b]? = some (Obj.cells cs t (0, 0))) (hn : vs.length = n) (hv : ∀ j v, vs[j]? = some v → cs[off + j]? = some v) :
    (Instr.loadAt T (.pointer (some ⟨b, off, none⟩))).run Tryz.prog w = .ok (.agg vs.toArray) w := by
  have hl : (loadCells ⟨b, off, none⟩ n).run Tryz.prog w = .ok vs.toArray w := by
    rw [← hn]
    refine run_loadCells_list (P := Tryz.prog) w ⟨b, off, none⟩ vs (fun j v hj => ?_)
    have e : (⟨b, off, none⟩ : Addr).add j = ⟨b, off + j, none⟩ := by unfold Addr.add; split <;> simp_all
    rw [e, Err.cell_of_blk hb (off + j)]
    exact hv j v hj
  cases hq : Tryz.prog.info? T with
  | none => rw [hq] at hsz; simp at hsz
  | some i =>
    have hs : i.size = n := by rw [hq] at hsz; simpa using hsz
    simp only [Instr.loadAt, Instr.sureAddr, Sem.run_bind, Sem.run_pure, Result.andThen_ok]
    simp [loadVar, Sem.run_bind, hagg, sizeOf, typeInfo, hq, hs, hl]
theorem run_store_off {T : TypeId} {n : Nat} (hsz : (Tryz.prog.info? T).map (·.size) = some n) (w : World) (b off : Nat) (cs : Array Value) (t : TypeId) (vs : List Value) (hb : w.heap[b]? = some (Obj.cells cs t (0, 0))) (hn : vs.length = n) (hf : off + n ≤ cs.size) (h1 : ∀ v ∈ vs, v.oneCell' = true) :
    (Instr.storeAt T (.pointer (some ⟨b, off, none⟩)) (.agg vs.toArray)).run Tryz.prog w = .ok () (w.setRow b (cs.toList.take off ++ vs ++ cs.toList.drop (off + vs.length)).toArray) := by
  have hst := run_storeCells_at Tryz.prog b off t vs 0 cs w hb (by omega) h1
  cases hq : Tryz.prog.info? T with
  | none => rw [hq] at hsz; simp at hsz
  | some i =>
    have hs : i.size = n := by rw [hq] at hsz; simpa using hsz
    simp only [Instr.storeAt, Instr.sureAddr, Sem.run_bind, Sem.run_pure, Result.andThen_ok]
    simp [storeVar, sizeOf, typeInfo, hq, Value.cells, hs, hn, hst]
section
variable {ops : Array Oper} {rest : List Oper} {o : Oper} {a : Go.Act} {w : World} {Q : Exit → Go.Act → World → Prop}
theorem wl_load_off {T : TypeId} {n : Nat} (hagg : ∀ w : World, (isAgg T).run Tryz.prog w = .ok true w) (hsz : (Tryz.prog.info? T).map (·.size) = some n) (b off : Nat) (cs : Array Value) (t : TypeId) (vs : List Value) (hb : w.heap[b]? = some (Obj.cells cs t (0, 0))) (hn : vs.length = n) (hv : ∀ j v, vs[j]? = some v → cs[off + j]? = some v)
    (hgd : o.guard = none) (p_ : Operand) (ho : o.op = .load T p_) (hx : a.eval p_ = .pointer (some ⟨b, off, none⟩))
    (h : wpList Tryz.prog ops Q rest (a.put o.dst (.agg vs.toArray)) w) : wpList Tryz.prog ops Q (o :: rest) a w := by
  refine Kd.event_run (v := .agg vs.toArray) (w1 := w) hgd ?_ h
  unfold execOp
  simp only [ho, hx, run_load_off hagg hsz w b off cs t vs hb hn hv, Sem.run_bind, Sem.run_pure, Result.andThen_ok]
theorem wl_store_off {T : TypeId} {n : Nat} (hsz : (Tryz.prog.info? T).map (·.size) = some n) (b off : Nat) (cs : Array Value) (t : TypeId) (vs : List Value) (hb : w.heap[b]? = some (Obj.cells cs t (0, 0))) (hn : vs.length = n) (hf : off + n ≤ cs.size) (h1 : ∀ v ∈ vs, v.oneCell' = true)
    (hgd : o.guard = none) (p_ q_ : Operand) (ho : o.op = .store T p_ q_) (hx : a.eval p_ = .pointer (some ⟨b, off, none⟩)) (hy : a.eval q_ = .agg vs.toArray)
    (h : wpList Tryz.prog ops Q rest (a.put o.dst undef) (w.setRow b (cs.toList.take off ++ vs ++ cs.toList.drop (off + vs.length)).toArray)) : wpList Tryz.prog ops Q (o :: rest) a w :=
  wpList_plain hgd fun K hK => by
    unfold Oper.wp execOp
    simp only [ho, hx, hy, Sem.run_bind, run_store_off hsz w b off cs t vs hb hn hf h1, Result.andThen_ok]
    exact hK _ _ h
end
theorem aggRf (w : World) : (isAgg 36).run Tryz.prog w = .ok true w := Tryz.isAgg36 w
theorem aggM (w : World) : (isAgg 43).run Tryz.prog w = .ok true w := Tryz.isAgg43 w
theorem szRf : (Tryz.prog.info? 36).map (·.size) = some 3 := by kernel_rfl
theorem szM : (Tryz.prog.info? 43).map (·.size) = some 4 := by kernel_rfl
structure Pl where
  S : Nat
  R : Nat
  M : Nat
  H : Nat
  v : Value
  p : Value
structure St where
  d : Dsk
  gen : Int
  own : Rf
  put : List Rf
  held : List (Rf × Int)
def sa (q : Pl) (o : Mni.Loc) (m : Man) (s : St) : Array Value := #[.pointer (some ⟨q.R, 0, none⟩), .int .u32 s.gen, .slice o.p0 m.refs.length o.c0, .slice o.p1 m.stack.length o.c1, .int .i64 m.upper, .slice o.p3 m.snaps.length o.c3, .int .i64 s.own.f0, .int .i64 s.own.f1, .int .u32 s.own.f2, q.p, .map (some q.H)]
def Fs (q : Pl) (i : Nat) : Prop := i = q.S ∨ i = q.H ∨ Ft q.R q.M q.v i ∨ q.p.ownBlock = some i
structure IsS (w : World) (q : Pl) (o : Mni.Loc) (m : Man) (s : St) : Prop where
  blk : w.heap[q.S]? = some (Obj.cells (sa q o m s) 82 (0, 0))
  dsk : IsD w q.R q.M q.v s.d
  held : HeldAt w q.H s.held
  put : rk.R 36 w 0 (fun _ => True) q.p s.put
  man : ∀ w2 : World, (∀ k, k < w.heap.size → ¬ Fs q k → w2.heap[k]? = w.heap[k]?) → w.heap.size ≤ w2.heap.size → At w2 o m
  n1 : q.S ≠ q.H
  n2 : ∀ i, Ft q.R q.M q.v i → i ≠ q.S ∧ i ≠ q.H ∧ q.p.ownBlock ≠ some i
  n3 : q.p.ownBlock ≠ some q.S ∧ q.p.ownBlock ≠ some q.H
theorem IsS.lt {w : World} {q : Pl} {o : Mni.Loc} {m : Man} {s : St} (h : IsS w q o m s) : ∀ i, Fs q i → i < w.heap.size := by
  rintro i (rfl | rfl | hi | hi)
  · exact Err.lt_of_block h.blk
  · exact h.held.lt
  · exact h.dsk.ft_lt i hi
  · exact ((Kd.R_bound h.put).1 i hi).2.2.1
theorem IsS.at {w : World} {q : Pl} {o : Mni.Loc} {m : Man} {s : St} (h : IsS w q o m s) : At w o m := h.man w (fun _ _ _ => rfl) (Nat.le_refl _)
theorem IsS.on {w w' : World} {q : Pl} {o : Mni.Loc} {m : Man} {s : St} (h : IsS w q o m s) (k : Below w.heap.size w w') : IsS w' q o m s := by
  have km := Mod.of_below (S := fun _ => False) k (Nat.le_refl _)
  refine ⟨km.blk h.blk (fun e => e), h.dsk.on k, h.held.mod km (fun e => e), Kd.R_below h.put k, fun w2 h2 hs => ?_, h.n1, h.n2, h.n3⟩
  exact h.man w2 (fun i hi hn => (h2 i (Nat.lt_of_lt_of_le hi k.size) hn).trans (k.block i hi)) (Nat.le_trans k.size hs)
end Go.Proofs.YtaodgnladjafoaaGreatDoor.Sto
