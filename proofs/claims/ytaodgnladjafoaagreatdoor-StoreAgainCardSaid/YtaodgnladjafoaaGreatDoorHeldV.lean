/- Words that the proof uses. -/
import Derived.Test.YtaodgnladjafoaaGreatDoorMani9V
import Derived.Test.YtaodgnladjafoaaGreatDoorDisk01V
import Derived.MapKept
import Derived.Maps.RangeRun
set_option linter.unusedVariables false
set_option linter.unusedSimpArgs false
namespace Go.Proofs.YtaodgnladjafoaaGreatDoor.Sto
open Go.RowKit Go.Proofs.YtaodgnladjafoaaGreatDoorW.PrintWords Go.Proofs.YtaodgnladjafoaaGreatDoorW.PrintLast Go.Proofs.YtaodgnladjafoaaGreatDoorW.PrintMore Go.Proofs.YtaodgnladjafoaaGreatDoor.Md Go.Proofs.YtaodgnladjafoaaGreatDoor.Mni
def sameR (x y : Rf) : Bool := x.f0 == y.f0 && (x.f1 == y.f1 && x.f2 == y.f2)
theorem sameR_iff {x y : Rf} : sameR x y = true ↔ x = y := by
  cases x; cases y; simp [sameR]
theorem sameR_self (x : Rf) : sameR x x = true := sameR_iff.2 rfl
theorem sameR_no {x y : Rf} : sameR x y = false ↔ x ≠ y := by
  rw [← Bool.not_eq_true, not_congr sameR_iff]
theorem eqRf (d : Nat) (w : World) (x y : Rf) : (Op.equalIn (d + 2) 36 (.agg (ra x)) (.agg (ra y))).run Tryz.prog w = .ok (sameR x y) w := by
  unfold ra
  refine eqA_of Tryz.underlying36 (by kernel_rfl) ?_
  refine eqf_cons (by rfl) (by go_simp; rfl) (by go_simp; rfl) (by go_simp) ?_
  refine eqf_cons (by rfl) (by go_simp; rfl) (by go_simp; rfl) (by go_simp) ?_
  exact eqf_last (by rfl) (by go_simp; rfl) (by go_simp; rfl) (by go_simp)
def kv (p : Rf × Int) : Value × Value := (.agg (ra p.1), .int .i64 p.2)
def idxH (k : Rf) : List (Rf × Int) → Nat → Option (Nat × Int)
  | [], _ => none
  | p :: L, i => if sameR k p.1 then some (i, p.2) else idxH k L (i + 1)
structure HeldIn (L : List (Rf × Int)) (es : Array MapEntry) (clock : Nat) : Prop where
  kv : es.toList.map (fun e => (e.key, e.val)) = L.map kv
  nd : (es.toList.map (·.born)).Nodup
  lt : ∀ e ∈ es.toList, e.born < clock
  ks : (L.map (·.1)).Nodup
def HeldAt (w : World) (H : Nat) (L : List (Rf × Int)) : Prop := ∃ es clock, w.heap[H]? = some (Obj.map es clock) ∧ HeldIn L es clock
theorem HeldAt.mod {w w' : World} {H : Nat} {L : List (Rf × Int)} {S : Nat → Prop} (h : HeldAt w H L) (k : Mod S w w') (hn : ¬ S H) : HeldAt w' H L := by
  obtain ⟨es, clock, h1, h2⟩ := h
  exact ⟨es, clock, k.blk h1 hn, h2⟩
theorem HeldAt.lt {w : World} {H : Nat} {L : List (Rf × Int)} (h : HeldAt w H L) : H < w.heap.size := by
  obtain ⟨es, clock, h1, h2⟩ := h
  exact Err.lt_of_block h1
theorem HeldAt.new (w : World) : HeldAt (w.alloc (.map #[] 0)) w.heap.size [] :=
  ⟨#[], 0, heap_alloc_last _ _, rfl, List.nodup_nil, fun e he => (List.not_mem_nil he).elim, List.nodup_nil⟩
def getH (L : List (Rf × Int)) (k : Rf) : Int := ((idxH k L 0).map (·.2)).getD 0
def putH (L : List (Rf × Int)) (k : Rf) (v : Int) : List (Rf × Int) := match idxH k L 0 with
  | none => L ++ [(k, v)]
  | some p => L.set p.1 (k, v)
def delH (L : List (Rf × Int)) (k : Rf) : List (Rf × Int) := match idxH k L 0 with
  | none => L
  | some p => L.eraseIdx p.1
theorem set_kv (L : List (Rf × Int)) (i : Nat) (k : Rf) (v : Int) (es : List MapEntry) (h : es.map (fun e => (e.key, e.val)) = L.map kv) (f : MapEntry → MapEntry) (hf : ∀ e, es[i]? = some e → ((f e).key, (f e).val) = kv (k, v)) : (es.modify i f).map (fun e => (e.key, e.val)) = (L.set i (k, v)).map kv := by
  apply List.ext_getElem?
  intro j
  have hj := congrArg (fun (l : List (Value × Value)) => l[j]?) h
  simp only [List.getElem?_map] at hj
  rw [List.getElem?_map, List.getElem?_map, List.getElem?_modify, List.getElem?_set]
  by_cases hij : i = j
  · subst hij
    cases he : es[i]? with
    | none =>
      rw [he] at hj
      have hl : ¬ i < L.length := fun hl => by rw [List.getElem?_eq_getElem hl] at hj; cases hj
      simp [hl]
    | some e =>
      rw [he] at hj
      have hl : i < L.length := by
        rcases Nat.lt_or_ge i L.length with g | g
        · exact g
        · rw [List.getElem?_eq_none g] at hj; cases hj
      have := hf e he
      simp [hl]
      exact this
  · simp [hij]
    exact hj
theorem nodup_set {k : Rf} {v x : Int} : ∀ {L : List (Rf × Int)} {n : Nat}, L[n]? = some (k, x) → (L.set n (k, v)).map (·.1) = L.map (·.1)
  | [], n, h => by simp at h
  | p :: L, 0, h => by simp at h; subst h; rfl
  | p :: L, n + 1, h => by
    have h' : L[n]? = some (k, x) := by simpa using h
    show p.1 :: (L.set n (k, v)).map (·.1) = p.1 :: L.map (·.1)
    rw [nodup_set h']
theorem modify_born (l : List MapEntry) (i : Nat) (f : MapEntry → MapEntry) (h : ∀ e, (f e).born = e.born) : (l.modify i f).map (·.born) = l.map (·.born) := by
  apply List.ext_getElem?
  intro j
  rw [List.getElem?_map, List.getElem?_map, List.getElem?_modify]
  by_cases hij : i = j
  · subst hij
    cases l[i]? with
    | none => simp
    | some e => simp [h]
  · simp [hij]
theorem HeldIn.push {L : List (Rf × Int)} {es : Array MapEntry} {clock : Nat} (h : HeldIn L es clock) (k : Rf) (v : Int) (hn : k ∉ L.map (·.1)) : HeldIn (L ++ [(k, v)]) (es.push { key := .agg (ra k), val := .int .i64 v, born := clock }) (clock + 1) := by
  refine ⟨?_, ?_, ?_, ?_⟩
  · simp only [Array.toList_push, List.map_append, h.kv]; rfl
  · simp only [Array.toList_push, List.map_append, List.map_cons, List.map_nil]
    refine List.nodup_append.2 ⟨h.nd, by simp, ?_⟩
    intro a ha b hb
    simp only [List.mem_singleton] at hb
    subst hb
    obtain ⟨x, hx, rfl⟩ := List.mem_map.1 ha
    exact Nat.ne_of_lt (h.lt x hx)
  · intro e he
    simp only [Array.toList_push, List.mem_append, List.mem_singleton] at he
    rcases he with he | rfl
    · exact Nat.lt_succ_of_lt (h.lt e he)
    · exact Nat.lt_succ_self _
  · rw [List.map_append]
    refine List.nodup_append.2 ⟨h.ks, by simp, ?_⟩
    intro a ha b hb
    simp only [List.map_cons, List.map_nil, List.mem_singleton] at hb
    subst hb
    exact fun e => hn (e ▸ ha)
theorem HeldIn.set {L : List (Rf × Int)} {es : Array MapEntry} {clock : Nat} (h : HeldIn L es clock) (k : Rf) (v x : Int) (n : Nat) (hn : L[n]? = some (k, x)) (f : MapEntry → MapEntry) (hf : ∀ e, es.toList[n]? = some e → ((f e).key, (f e).val) = Sto.kv (k, v)) (hb : ∀ e, (f e).born = e.born) : HeldIn (L.set n (k, v)) (es.modify n f) clock := by
  have e : (es.modify n f).toList = es.toList.modify n f := by simp
  refine ⟨?_, ?_, ?_, ?_⟩
  · rw [e]; exact set_kv L n k v es.toList h.kv f hf
  · rw [e, modify_born _ _ _ hb]; exact h.nd
  · intro y hy
    rw [e] at hy
    have : y.born ∈ (es.toList.modify n f).map (·.born) := List.mem_map.2 ⟨y, hy, rfl⟩
    rw [modify_born _ _ _ hb] at this
    obtain ⟨z, hz, ez⟩ := List.mem_map.1 this
    rw [← ez]; exact h.lt z hz
  · rw [nodup_set hn]; exact h.ks
end Go.Proofs.YtaodgnladjafoaaGreatDoor.Sto
