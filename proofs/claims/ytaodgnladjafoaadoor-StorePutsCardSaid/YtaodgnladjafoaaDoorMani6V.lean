/- A manifest, as the program has it. -/
import Derived.Test.YtaodgnladjafoaaDoorMani5V
set_option linter.unusedVariables false
set_option linter.unusedSimpArgs false
namespace Go.Proofs.YtaodgnladjafoaaDoor.Mni
open Go.RowKit Go.Proofs.YtaodgnladjafoaaDoorW.PrintWords Go.Proofs.YtaodgnladjafoaaDoorW.PrintLast Go.Proofs.YtaodgnladjafoaaDoorW.PrintMore Go.Proofs.YtaodgnladjafoaaDoor.Md Go.Proofs.YtaodgnladjafoaaDoor.QStorePuts
theorem litR (a b c : Int) (W : World) : (Instr.buildSlice 36 1 #[(0, .agg #[.int .i64 a, .int .i64 b, .int .u32 c])]).run Tryd.prog W = .ok (.slice (some ⟨W.heap.size, 0, none⟩) 1 1) (W.alloc (.cells #[.int .i64 a, .int .i64 b, .int .u32 c] 44 (0, 0))) := by kernel_rfl
theorem exec_litR {r : Operand → Value} {o : Oper} {x : Operand} {a b c : Int} (ho : o.op = .buildSlice 36 1 #[(0, x)]) (hx : r x = .agg #[.int .i64 a, .int .i64 b, .int .u32 c]) (W : World) : (execOp r o).run Tryd.prog W = .ok (.value (.slice (some ⟨W.heap.size, 0, none⟩) 1 1)) (W.alloc (.cells #[.int .i64 a, .int .i64 b, .int .u32 c] 44 (0, 0))) := by
  have h2 := litR a b c W
  unfold execOp
  simp only [ho]
  have e : (#[((0 : Nat), x)] : Array (Nat × Operand)).map (fun (y : Nat × Operand) => (y.1, r y.2)) = #[(0, .agg #[.int .i64 a, .int .i64 b, .int .u32 c])] := by simp [hx]
  show (Sem.run _ (do let v ← Instr.buildSlice _ 1 (Array.map _ _); _) _) = _
  rw [e, Sem.run_bind, h2]
  rfl
theorem readsR (w : World) (g : Nat) (p : Rf) (h : w.heap[g]? = some (.cells #[.int .i64 p.f0, .int .i64 p.f1, .int .u32 p.f2] 44 (0, 0))) : ReadsRow (fun (x : Rf) cs => cs = [Value.int .i64 x.f0, .int .i64 x.f1, .int .u32 x.f2]) rk.sz w (some ⟨g, 0, none⟩) 1 [p] := by
  refine ⟨rfl, by decide, fun _ => ⟨⟨g, 0, none⟩, rfl, fun j x hj => ?_⟩⟩
  have hj0 : j = 0 := by
    have := (List.getElem?_eq_some_iff.1 hj).1
    simp at this; exact this
  subst hj0
  cases hj
  refine ⟨[.int .i64 p.f0, .int .i64 p.f1, .int .u32 p.f2], rfl, rfl, fun i u hi => ?_⟩
  have e : (⟨g, 0, none⟩ : Addr).add (0 * rk.sz + i) = ⟨g, i, none⟩ := by
    unfold Addr.add
    by_cases h0 : i = 0
    · subst h0; rfl
    · rw [if_neg (by omega)]; simp
  rw [e, Err.cell_of_blk h i]
  simpa using hi
theorem infoR : (Tryd.prog.info? 44).map (fun i => (i.zero, i.size, i.bytes)) = some (some (.agg #[.int .i64 0, .int .i64 0, .int .u32 0]), 3, 24) := by kernel_rfl
theorem r_sl {α : Type} {d : Kd α} {e base : Nat} {w : World} {ok : Nat → Prop} {v : Value} {xs : List α} (h : d.R e w base ok v xs) : ∃ A m c, v = .slice A m c := by
  obtain ⟨A, c, rfl⟩ := Kd.R_slice h
  exact ⟨_, _, _, rfl⟩
theorem mod_row (W : World) (b : Nat) (cs : Array Value) : Mod (· = b) W (W.setRow b cs) :=
  ⟨rfl, rfl, rfl, by simp, fun k hk hs => by
    show (W.heap.modify b _)[k]? = _
    rw [Array.getElem?_modify, if_neg (fun e => hs e.symm)]⟩
end Go.Proofs.YtaodgnladjafoaaDoor.Mni
