/- Words that the proof uses. -/
import Derived.Test.YtaodgnladjafoaaGreatDoorMani9V
import Derived.Test.YtaodgnladjafoaaGreatDoorDisk01V
import Derived.MapKept
import Derived.Maps.RangeRun
set_option linter.unusedVariables false
set_option linter.unusedSimpArgs false
namespace Go.Proofs.YtaodgnladjafoaaGreatDoor.Sto
open Go.RowKit Go.Proofs.YtaodgnladjafoaaGreatDoorW.PrintWords Go.Proofs.YtaodgnladjafoaaGreatDoorW.PrintLast Go.Proofs.YtaodgnladjafoaaGreatDoorW.PrintMore Go.Proofs.YtaodgnladjafoaaGreatDoor.Md Go.Proofs.YtaodgnladjafoaaGreatDoor.Mni
def sameR (x y : Rf) : Bool := x.f0 == y.f0 && (x.f1 == y.f1 && x.f2 == y.f2)
theorem sameR_iff {x y : Rf} : sameR x y = true ↔ x = y := by
  cases x; cases y; simp [sameR]
theorem sameR_self (x : Rf) : sameR x x = true := sameR_iff.2 rfl
theorem eqRf (d : Nat) (w : World) (x y : Rf) : (Op.equalIn (d + 2) 36 (.agg (ra x)) (.agg (ra y))).run Tryz.prog w = .ok (sameR x y) w := by
  unfold ra
  refine eqA_of Tryz.underlying36 (by kernel_rfl) ?_
  refine eqf_cons (by rfl) (by go_simp; rfl) (by go_simp; rfl) (by go_simp) ?_
  refine eqf_cons (by rfl) (by go_simp; rfl) (by go_simp; rfl) (by go_simp) ?_
  exact eqf_last (by rfl) (by go_simp; rfl) (by go_simp; rfl) (by go_simp)
def kv (p : Rf × Int) : Value × Value := (.agg (ra p.1), .int .i64 p.2)
structure HeldIn (L : List (Rf × Int)) (es : Array MapEntry) (clock : Nat) : Prop where
  kv : es.toList.map (fun e => (e.key, e.val)) = L.map kv
  nd : (es.toList.map (·.born)).Nodup
  lt : ∀ e ∈ es.toList, e.born < clock
  ks : (L.map (·.1)).Nodup
def HeldAt (w : World) (H : Nat) (L : List (Rf × Int)) : Prop := ∃ es clock, w.heap[H]? = some (Obj.map es clock) ∧ HeldIn L es clock
theorem HeldAt.mod {w w' : World} {H : Nat} {L : List (Rf × Int)} {S : Nat → Prop} (h : HeldAt w H L) (k : Mod S w w') (hn : ¬ S H) : HeldAt w' H L := by
  obtain ⟨es, clock, h1, h2⟩ := h
  exact ⟨es, clock, k.blk h1 hn, h2⟩
theorem HeldAt.lt {w : World} {H : Nat} {L : List (Rf × Int)} (h : HeldAt w H L) : H < w.heap.size := by
  obtain ⟨es, clock, h1, h2⟩ := h
  exact Err.lt_of_block h1
theorem HeldAt.new (w : World) : HeldAt (w.alloc (.map #[] 0)) w.heap.size [] :=
  ⟨#[], 0, heap_alloc_last _ _, rfl, List.nodup_nil, fun e he => (List.not_mem_nil he).elim, List.nodup_nil⟩
end Go.Proofs.YtaodgnladjafoaaGreatDoor.Sto
