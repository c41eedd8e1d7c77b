/- Words that the proof uses. -/
import Derived.Test.YtaodgnladjafoaaGreatDoorMani89V
import Derived.Test.YtaodgnladjafoaaGreatDoorDisk01V
import Derived.MapKept
import Derived.Maps.RangeRun
set_option linter.unusedVariables false
set_option linter.unusedSimpArgs false
namespace Go.Proofs.YtaodgnladjafoaaGreatDoor.Sto
open Go.RowKit Go.Proofs.YtaodgnladjafoaaGreatDoorW.PrintWords Go.Proofs.YtaodgnladjafoaaGreatDoorW.PrintLast Go.Proofs.YtaodgnladjafoaaGreatDoorW.PrintMore Go.Proofs.YtaodgnladjafoaaGreatDoor.Md Go.Proofs.YtaodgnladjafoaaGreatDoor.Mni
def sameR (x y : Rf) : Bool := x.f0 == y.f0 && (x.f1 == y.f1 && x.f2 == y.f2)
theorem sameR_iff {x y : Rf} : sameR x y = true ↔ x = y := by
  cases x; cases y; simp [sameR]
theorem sameR_self (x : Rf) : sameR x x = true := sameR_iff.2 rfl
theorem sameR_no {x y : Rf} : sameR x y = false ↔ x ≠ y := by
  rw [← Bool.not_eq_true, not_congr sameR_iff]
theorem eqRf (d : Nat) (w : World) (x y : Rf) : (Op.equalIn (d + 2) 36 (.agg (ra x)) (.agg (ra y))).run Tryz.prog w = .ok (sameR x y) w := by
  unfold ra
  refine eqA_of Tryz.underlying36 (by kernel_rfl) ?_
  refine eqf_cons (by rfl) (by go_simp; rfl) (by go_simp; rfl) (by go_simp) ?_
  refine eqf_cons (by rfl) (by go_simp; rfl) (by go_simp; rfl) (by go_simp) ?_
  exact eqf_last (by rfl) (by go_simp; rfl) (by go_simp; rfl) (by go_simp)
theorem equalRf (x y : Rf) (w : World) : (Op.equal 36 (.agg (ra x)) (.agg (ra y))).run Tryz.prog w = .ok (sameR x y) w := eqRf 9998 w x y
theorem check_key (b : Bool) (x : Rf) (w : World) : (Instr.checkKey b 10000 36 (.agg (ra x))).run Tryz.prog w = .ok () w := by kernel_rfl
def kv (p : Rf × Int) : Value × Value := (.agg (ra p.1), .int .i64 p.2)
def idxH (k : Rf) : List (Rf × Int) → Nat → Option (Nat × Int)
  | [], _ => none
  | p :: L, i => if sameR k p.1 then some (i, p.2) else idxH k L (i + 1)
theorem idxH_none {k : Rf} : ∀ {L : List (Rf × Int)} {i : Nat}, idxH k L i = none ↔ k ∉ L.map (·.1)
  | [], i => by simp [idxH]
  | p :: L, i => by
    unfold idxH
    by_cases h : sameR k p.1 = true
    · rw [if_pos h, List.map_cons, List.mem_cons]
      exact ⟨fun e => (by cases e), fun e => (e (.inl (sameR_iff.1 h))).elim⟩
    · rw [if_neg h, List.map_cons, List.mem_cons, idxH_none]
      exact ⟨fun e => fun g => g.elim (fun g => h (sameR_iff.2 g)) e, fun e g => e (.inr g)⟩
theorem idxH_some {k : Rf} {v : Int} {j : Nat} : ∀ {L : List (Rf × Int)} {i : Nat}, idxH k L i = some (j, v) → ∃ n, j = i + n ∧ L[n]? = some (k, v)
  | [], i, h => by cases h
  | p :: L, i, h => by
    unfold idxH at h
    by_cases e : sameR k p.1 = true
    · rw [if_pos e] at h
      cases h
      have := sameR_iff.1 e
      exact ⟨0, rfl, by rw [this]; rfl⟩
    · rw [if_neg e] at h
      obtain ⟨n, e1, e2⟩ := idxH_some h
      exact ⟨n + 1, by omega, e2⟩
theorem ask_run (k : Rf) (w : World) : ∀ (L : List (Rf × Int)) (es : List MapEntry) (i : Nat), es.map (fun e => (e.key, e.val)) = L.map kv → (Instr.findAsking 36 (.agg (ra k)) es i).run Tryz.prog w = .ok ((idxH k L i).map fun p => (p.1, Value.int .i64 p.2)) w
  | [], [], i, h => rfl
  | p :: L, e :: es, i, h => by
    simp only [List.map_cons, List.cons.injEq, kv, Prod.mk.injEq] at h
    obtain ⟨⟨h1, h2⟩, h3⟩ := h
    unfold Instr.findAsking idxH
    rw [h1]
    simp only [Sem.run_bind, equalRf, Result.andThen_ok]
    cases hs : sameR k p.1 with
    | true => simp only [if_true, Sem.run_pure, h2]; rfl
    | false =>
      simp only [Bool.false_eq_true, if_false]
      exact ask_run k w L es (i + 1) h3
  | [], e :: es, i, h => by simp at h
  | p :: L, [], i, h => by simp at h
theorem find_run (k : Rf) (w : World) (L : List (Rf × Int)) (es : List MapEntry) (h : es.map (fun e => (e.key, e.val)) = L.map kv) : (Instr.findKey 36 (.agg (ra k)) es).run Tryz.prog w = .ok ((idxH k L 0).map fun p => (p.1, Value.int .i64 p.2)) w := by
  cases es with
  | nil =>
    have : L = [] := by cases L with
      | nil => rfl
      | cons _ _ => simp at h
    subst this
    simp only [Instr.findKey, Sem.run_bind, run_underlying Tryz.underlying36, Result.andThen_ok]
    rfl
  | cons e es =>
    have hn : ∀ d, Instr.findNow (.struct d) (.agg (ra k)) (e :: es) 0 = none := fun d => rfl
    simp only [Instr.findKey, Sem.run_bind, run_underlying Tryz.underlying36, Result.andThen_ok, hn]
    exact ask_run k w L (e :: es) 0 h
structure HeldIn (L : List (Rf × Int)) (es : Array MapEntry) (clock : Nat) : Prop where
  kv : es.toList.map (fun e => (e.key, e.val)) = L.map kv
  nd : (es.toList.map (·.born)).Nodup
  lt : ∀ e ∈ es.toList, e.born < clock
  ks : (L.map (·.1)).Nodup
def HeldAt (w : World) (H : Nat) (L : List (Rf × Int)) : Prop := ∃ es clock, w.heap[H]? = some (Obj.map es clock) ∧ HeldIn L es clock
theorem HeldAt.mod {w w' : World} {H : Nat} {L : List (Rf × Int)} {S : Nat → Prop} (h : HeldAt w H L) (k : Mod S w w') (hn : ¬ S H) : HeldAt w' H L := by
  obtain ⟨es, clock, h1, h2⟩ := h
  exact ⟨es, clock, k.blk h1 hn, h2⟩
theorem HeldAt.lt {w : World} {H : Nat} {L : List (Rf × Int)} (h : HeldAt w H L) : H < w.heap.size := by
  obtain ⟨es, clock, h1, h2⟩ := h
  exact Err.lt_of_block h1
theorem HeldAt.new (w : World) : HeldAt (w.alloc (.map #[] 0)) w.heap.size [] :=
  ⟨#[], 0, heap_alloc_last _ _, rfl, List.nodup_nil, fun e he => (List.not_mem_nil he).elim, List.nodup_nil⟩
def getH (L : List (Rf × Int)) (k : Rf) : Int := ((idxH k L 0).map (·.2)).getD 0
def putH (L : List (Rf × Int)) (k : Rf) (v : Int) : List (Rf × Int) := match idxH k L 0 with
  | none => L ++ [(k, v)]
  | some p => L.set p.1 (k, v)
def delH (L : List (Rf × Int)) (k : Rf) : List (Rf × Int) := match idxH k L 0 with
  | none => L
  | some p => L.eraseIdx p.1
theorem look_H (w : World) (H : Nat) (L : List (Rf × Int)) (k : Rf) (h : HeldAt w H L) : (Instr.lookup 80 (.map (some H)) (.agg (ra k)) false).run Tryz.prog w = .ok (.int .i64 (getH L k)) w := by
  obtain ⟨es, clock, h1, h2⟩ := h
  simp only [Instr.lookup, Sem.run_bind, run_underlying Tryz.underlying80, MapKept.run_getObj_map h1, Sem.run_pure, Result.andThen_ok, check_key, find_run k w L es.toList h2.kv]
  unfold getH
  cases idxH k L 0 with
  | none => kernel_rfl
  | some p => rfl
theorem set_kv (L : List (Rf × Int)) (i : Nat) (k : Rf) (v : Int) (es : List MapEntry) (h : es.map (fun e => (e.key, e.val)) = L.map kv) (f : MapEntry → MapEntry) (hf : ∀ e, es[i]? = some e → ((f e).key, (f e).val) = kv (k, v)) : (es.modify i f).map (fun e => (e.key, e.val)) = (L.set i (k, v)).map kv := by
  apply List.ext_getElem?
  intro j
  have hj := congrArg (fun (l : List (Value × Value)) => l[j]?) h
  simp only [List.getElem?_map] at hj
  rw [List.getElem?_map, List.getElem?_map, List.getElem?_modify, List.getElem?_set]
  by_cases hij : i = j
  · subst hij
    cases he : es[i]? with
    | none =>
      rw [he] at hj
      have hl : ¬ i < L.length := fun hl => by rw [List.getElem?_eq_getElem hl] at hj; cases hj
      simp [hl]
    | some e =>
      rw [he] at hj
      have hl : i < L.length := by
        rcases Nat.lt_or_ge i L.length with g | g
        · exact g
        · rw [List.getElem?_eq_none g] at hj; cases hj
      have := hf e he
      simp [hl]
      exact this
  · simp [hij]
    exact hj
theorem nodup_set {k : Rf} {v x : Int} : ∀ {L : List (Rf × Int)} {n : Nat}, L[n]? = some (k, x) → (L.set n (k, v)).map (·.1) = L.map (·.1)
  | [], n, h => by simp at h
  | p :: L, 0, h => by simp at h; subst h; rfl
  | p :: L, n + 1, h => by
    have h' : L[n]? = some (k, x) := by simpa using h
    show p.1 :: (L.set n (k, v)).map (·.1) = p.1 :: L.map (·.1)
    rw [nodup_set h']
theorem modify_born (l : List MapEntry) (i : Nat) (f : MapEntry → MapEntry) (h : ∀ e, (f e).born = e.born) : (l.modify i f).map (·.born) = l.map (·.born) := by
  apply List.ext_getElem?
  intro j
  rw [List.getElem?_map, List.getElem?_map, List.getElem?_modify]
  by_cases hij : i = j
  · subst hij
    cases l[i]? with
    | none => simp
    | some e => simp [h]
  · simp [hij]
theorem HeldIn.push {L : List (Rf × Int)} {es : Array MapEntry} {clock : Nat} (h : HeldIn L es clock) (k : Rf) (v : Int) (hn : k ∉ L.map (·.1)) : HeldIn (L ++ [(k, v)]) (es.push { key := .agg (ra k), val := .int .i64 v, born := clock }) (clock + 1) := by
  refine ⟨?_, ?_, ?_, ?_⟩
  · simp only [Array.toList_push, List.map_append, h.kv]; rfl
  · simp only [Array.toList_push, List.map_append, List.map_cons, List.map_nil]
    refine List.nodup_append.2 ⟨h.nd, by simp, ?_⟩
    intro a ha b hb
    simp only [List.mem_singleton] at hb
    subst hb
    obtain ⟨x, hx, rfl⟩ := List.mem_map.1 ha
    exact Nat.ne_of_lt (h.lt x hx)
  · intro e he
    simp only [Array.toList_push, List.mem_append, List.mem_singleton] at he
    rcases he with he | rfl
    · exact Nat.lt_succ_of_lt (h.lt e he)
    · exact Nat.lt_succ_self _
  · rw [List.map_append]
    refine List.nodup_append.2 ⟨h.ks, by simp, ?_⟩
    intro a ha b hb
    simp only [List.map_cons, List.map_nil, List.mem_singleton] at hb
    subst hb
    exact fun e => hn (e ▸ ha)
theorem HeldIn.set {L : List (Rf × Int)} {es : Array MapEntry} {clock : Nat} (h : HeldIn L es clock) (k : Rf) (v x : Int) (n : Nat) (hn : L[n]? = some (k, x)) (f : MapEntry → MapEntry) (hf : ∀ e, es.toList[n]? = some e → ((f e).key, (f e).val) = Sto.kv (k, v)) (hb : ∀ e, (f e).born = e.born) : HeldIn (L.set n (k, v)) (es.modify n f) clock := by
  have e : (es.modify n f).toList = es.toList.modify n f := by simp
  refine ⟨?_, ?_, ?_, ?_⟩
  · rw [e]; exact set_kv L n k v es.toList h.kv f hf
  · rw [e, modify_born _ _ _ hb]; exact h.nd
  · intro y hy
    rw [e] at hy
    have : y.born ∈ (es.toList.modify n f).map (·.born) := List.mem_map.2 ⟨y, hy, rfl⟩
    rw [modify_born _ _ _ hb] at this
    obtain ⟨z, hz, ez⟩ := List.mem_map.1 this
    rw [← ez]; exact h.lt z hz
  · rw [nodup_set hn]; exact h.ks
theorem HeldIn.erase {L : List (Rf × Int)} {es : Array MapEntry} {clock : Nat} (h : HeldIn L es clock) (n : Nat) : HeldIn (L.eraseIdx n) (es.eraseIdxIfInBounds n) clock := by
  have e : (es.eraseIdxIfInBounds n).toList = es.toList.eraseIdx n := by
    unfold Array.eraseIdxIfInBounds
    split
    · simp
    · rw [List.eraseIdx_of_length_le (by simp; omega)]
  have hs : (es.toList.eraseIdx n).Sublist es.toList := List.eraseIdx_sublist _ _
  refine ⟨?_, ?_, ?_, ?_⟩
  · rw [e, Go.ChangeMaps.map_eraseIdx, h.kv, ← Go.ChangeMaps.map_eraseIdx]
  · rw [e]; exact (hs.map _).nodup h.nd
  · rw [e]; exact fun y hy => h.lt y (hs.subset hy)
  · exact ((List.eraseIdx_sublist _ _).map _).nodup h.ks
theorem at_kv {L : List (Rf × Int)} {es : Array MapEntry} {clock : Nat} (h : HeldIn L es clock) {n : Nat} {k : Rf} {v : Int} (hn : L[n]? = some (k, v)) : ∃ e, es[n]? = some e ∧ e.key = .agg (ra k) ∧ e.val = .int .i64 v := by
  have hj := congrArg (fun (l : List (Value × Value)) => l[n]?) h.kv
  simp only [List.getElem?_map, hn] at hj
  cases he : es.toList[n]? with
  | none => rw [he] at hj; cases hj
  | some e =>
    rw [he] at hj
    simp only [Option.map_some, Option.some.injEq] at hj
    obtain ⟨h1, h2⟩ := Prod.mk.inj hj
    exact ⟨e, by simpa using he, h1, h2⟩
theorem stays_run (x : Rf) (w : World) : (Instr.keyThatStays (.agg (ra x)) (.agg (ra x))).run Tryz.prog w = .ok (.agg (ra x)) w := by
  have h : Instr.sameBits 10000 (.agg (ra x)) (.agg (ra x)) = true := by simp [Instr.sameBits, ra]
  simp [Instr.keyThatStays, h]
theorem del_H (w : World) (H : Nat) (L : List (Rf × Int)) (k : Rf) (t u ty : TypeId) (ht : t = 80) (h : HeldAt w H L) : ∃ w', (Builtin.delete_ #[t, u] ty #[.map (some H), .agg (ra k)]).run Tryz.prog w = .ok (.tuple #[]) w' ∧ HeldAt w' H (delH L k) ∧ Mod (· = H) w w' ∧ w'.heap.size = w.heap.size := by
  subst ht
  obtain ⟨es, clock, h1, h2⟩ := h
  have hlt := Err.lt_of_block h1
  have hf := find_run k w L es.toList h2.kv
  unfold delH
  cases hx : idxH k L 0 with
  | none =>
    rw [hx] at hf
    refine ⟨{ w with heap := w.heap.setIfInBounds H (.map es clock) }, ?_, ⟨_, _, by simp [hlt], h2⟩, Dk.mod_setObj, by simp⟩
    simp [Builtin.delete_, run_underlying Tryz.underlying80, MapKept.run_getObj_map h1, Result.andThen, check_key, hf, MapKept.run_setObj_map _ h1]
  | some p =>
    rw [hx] at hf
    refine ⟨{ w with heap := w.heap.setIfInBounds H (.map (es.eraseIdxIfInBounds p.1) clock) }, ?_, ⟨_, _, by simp [hlt], h2.erase p.1⟩, Dk.mod_setObj, by simp⟩
    simp [Builtin.delete_, run_underlying Tryz.underlying80, MapKept.run_getObj_map h1, Result.andThen, check_key, hf, MapKept.run_setObj_map _ h1]
end Go.Proofs.YtaodgnladjafoaaGreatDoor.Sto
