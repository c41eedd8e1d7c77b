/- Words that the proof uses. -/
import Derived.Test.YtaodgnladjafoaaGreatDoorBlob0V
import Derived.Laws.CopyRow
set_option linter.unusedVariables false
set_option linter.unusedSimpArgs false
namespace Go.Proofs.YtaodgnladjafoaaGreatDoor.Blb
open Go.Proofs.YtaodgnladjafoaaGreatDoor.AdM (sum)
open Go.RowKit Go.Proofs.YtaodgnladjafoaaGreatDoor.QStoreLasts Go.Proofs.YtaodgnladjafoaaGreatDoorW.PrintWords Go.Proofs.YtaodgnladjafoaaGreatDoorW.PrintLast Go.Proofs.YtaodgnladjafoaaGreatDoorW.PrintMore Go.Proofs.YtaodgnladjafoaaGreatDoor.CdM Go.Proofs.YtaodgnladjafoaaGreatDoor.Md Go.Proofs.YtaodgnladjafoaaGreatDoor.Dk
open Go.Extern.Stop (cell)
open Go.Proofs.YtaodgnladjafoaaGreatDoor.Err (Laid IsErr code_nil Chain at_some at_nil)
def over (q : Pg) (s : ByteArray) : Pg := ⟨s.data.toList.take 64 ++ q.1.drop (min s.size 64), by
  have h : s.data.toList.length = s.size := by simp
  rw [List.length_append, List.length_take, List.length_drop, q.2, h]; omega⟩
def pgOf (s : ByteArray) (i : Nat) : Pg := over pz (s.extract (i * 64) s.size)
theorem copy_run (W : World) (g : Nat) (q : Pg) (s : ByteArray) (ty : TypeId) (hg : W.heap[g]? = some (Obj.cells (pa q) 100 (0, 0))) :
    (Builtin.copy_ #[129, 9] ty #[.slice (some ⟨g, 0, none⟩) 64 64, .string s]).run Tryz.prog W = .ok (goInt (Nat.min s.size 64)) (W.setRow g (pa (over q s))) := by
  obtain ⟨cs, hcs⟩ : ∃ cs : List Value, cs = (s.data.toList.take 64).map cell := ⟨_, rfl⟩
  have hsl : s.data.toList.length = s.size := by simp
  have hl : cs.length = Nat.min s.size 64 := by rw [hcs, List.length_map, List.length_take, hsl]; show min 64 s.size = min s.size 64; omega
  have h1 : ∀ v ∈ cs, v.oneCell' = true := by
    intro v hv
    rw [hcs, List.mem_map] at hv
    obtain ⟨b, _, rfl⟩ := hv
    rfl
  have hst := run_storeCells_at Tryz.prog g 0 100 cs 0 (pa q) W hg (by rw [pa_size, hl]; show 0 + 0 + min s.size 64 ≤ 64; omega) h1
  have hrow : ((pa q).toList.take (0 + 0) ++ cs ++ (pa q).toList.drop (0 + 0 + cs.length)).toArray = pa (over q s) := by
    apply Array.toList_inj.1
    rw [pa_list, pa_list]
    simp only [List.take_zero, List.nil_append, Nat.zero_add, hl]
    show cs ++ (q.1.map cell).drop (min s.size 64) = (s.data.toList.take 64 ++ q.1.drop (min s.size 64)).map cell
    rw [List.map_append, hcs, List.map_drop]
  have hc : List.take (Nat.min s.size 64) (List.map (fun b => Value.int .u8 (b.toNat : Int)) s.data.toList) = cs := by
    rw [hcs, ← List.map_take]
    have e : List.take (Nat.min s.size 64) s.data.toList = List.take 64 s.data.toList := by
      rw [List.take_eq_take_iff, hsl]
      show min (min s.size 64) s.size = min 64 s.size
      omega
    rw [e]; rfl
  have hsz : (Tryz.prog.info? 5).map (·.size) = some 1 := by kernel_rfl
  cases hq : Tryz.prog.info? 5 with
  | none => simp [hq] at hsz
  | some i =>
    have hi : i.size = 1 := by simpa [hq] using hsz
    simp [Builtin.copy_, run_underlying Tryz.underlying129, Builtin.lenOf, Builtin.firstCells, sizeOf, typeInfo, hq, hi]
    rw [hc, hst, hrow]
    rfl
theorem step_copy {ops : Array Oper} {o : Oper} {a : Go.Act} {W : World} {K : Go.Act → World → Prop} {Q : Exit → Go.Act → World → Prop} {E : Prop} (hw : Region.wanted o (yielded ops a.tmps) = true) (g : Nat) (q : Pg) (s : ByteArray) (hg : W.heap[g]? = some (Obj.cells (pa q) 100 (0, 0))) (d x : Operand)
    (ho : o.op = .call { callee := .builtin .copy, args := #[d, x], argTypes := #[129, 9] }) (hd : a.eval d = .slice (some ⟨g, 0, none⟩) 64 64) (hx : a.eval x = .string s)
    (h : K (a.put o.dst (goInt (Nat.min s.size 64))) (W.setRow g (pa (over q s)))) : if Region.wanted o (yielded ops a.tmps) = true then Oper.wp Tryz.prog o a W K Q else E := by
  rw [if_pos hw]
  have hrun := copy_run W g q s o.type hg
  unfold Oper.wp
  simp [execOp, ho, resolve, invoke, builtin, hd, hx, hrun, Result.andThen]
  exact h
def pgs (s : ByteArray) (at_ : Int) : Nat → List (Int × Pg)
  | 0 => []
  | n + 1 => pgs s at_ n ++ [(at_ + (n : Int), pgOf s n)]
theorem pgs_length (s : ByteArray) (at_ : Int) : ∀ n, (pgs s at_ n).length = n
  | 0 => rfl
  | n + 1 => by simp [pgs, pgs_length s at_ n]
abbrev refA (x y z : Int) : Array Value := #[.int .i64 x, .int .i64 y, .int .u32 z]
theorem put_results (tmps : Array Value) (W : World) (b : Nat) (x y z : Int) (e : Value) (h4 : tmps.getD 6 undef = .pointer (some ⟨b, 0, none⟩)) (h5 : tmps.getD 7 undef = e) (h : W.heap[b]? = some (Obj.cells (refA x y z) 36 (0, 0))) : (results Tryz.f37 tmps).run Tryz.prog W = .ok (.tuple #[.agg (refA x y z), e]) W := by
  have hl : (loadVar 36 ⟨b, 0, none⟩).run Tryz.prog W = .ok (.agg (refA x y z)) W := run_loadVar_row W b 36 36 (refA x y z) (0, 0) _ h Tryz.underlying36 rfl (by kernel_rfl)
  have h4' : tmps[6]?.getD undef = .pointer (some ⟨b, 0, none⟩) := by simpa using h4
  have h5' : tmps[7]?.getD undef = e := by simpa using h5
  simp [results, Tryz.results37, asAddr, h4', h5', hl]
theorem ft_new {R M : Nat} {v v' : Value} {w : World} (hv : v'.ownBlock = v.ownBlock ∨ ∃ b, v'.ownBlock = some b ∧ w.heap.size ≤ b) : ∀ i, Ft R M v' i → Ft R M v i ∨ w.heap.size ≤ i := by
  rintro i (rfl | rfl | e)
  · exact .inl (.inl rfl)
  · exact .inl (.inr (.inl rfl))
  · rcases hv with g | ⟨b, g, hb⟩
    · exact .inl (.inr (.inr (by rw [← g]; exact e)))
    · rw [g] at e; cases e; exact .inr hb
theorem set1 {W : World} {b : Nat} {cs : Array Value} {t : TypeId} (h : W.heap[b]? = some (Obj.cells cs t (0, 0))) (j : Nat) (u : Value) : (W.setCell ⟨b, j, none⟩ u).heap[b]? = some (Obj.cells (cs.setIfInBounds j u) t (0, 0)) := by
  show (W.heap.modify b _)[b]? = _
  rw [Array.getElem?_modify]
  simp [h]
theorem set3 {W : World} {b : Nat} {x y z : Int} (h : W.heap[b]? = some (Obj.cells (refA x y z) 36 (0, 0))) (x' y' z' : Int) : (((W.setCell ⟨b, 0, none⟩ (.int .i64 x')).setCell ⟨b, 1, none⟩ (.int .i64 y')).setCell ⟨b, 2, none⟩ (.int .u32 z')).heap[b]? = some (Obj.cells (refA x' y' z') 36 (0, 0)) :=
  set1 (set1 (set1 h 0 _) 1 _) 2 _
theorem ref_keep {w wr : World} {K : Nat} {x y z : Int} (h : w.heap[K]? = some (Obj.cells (refA x y z) 36 (0, 0))) (hb : Below w.heap.size w wr) : wr.cell? ⟨K, 0, none⟩ = some (.int .i64 x) ∧ wr.cell? ⟨K, 1, none⟩ = some (.int .i64 y) ∧ wr.cell? ⟨K, 2, none⟩ = some (.int .u32 z) := by
  have h2 := (hb.block K (Err.lt_of_block h)).trans h
  exact ⟨Err.cell_of_blk h2 0, Err.cell_of_blk h2 1, Err.cell_of_blk h2 2⟩
end Go.Proofs.YtaodgnladjafoaaGreatDoor.Blb
