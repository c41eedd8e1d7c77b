/- Words that the proof uses. -/
import Derived.Test.YtaodgnladjafoaaGreatDoorStore1V
set_option linter.unusedVariables false
set_option linter.unusedSimpArgs false
namespace Go.Proofs.YtaodgnladjafoaaGreatDoor.Sto
open Go.RowKit Go.Proofs.YtaodgnladjafoaaGreatDoorW.PrintWords Go.Proofs.YtaodgnladjafoaaGreatDoorW.PrintLast Go.Proofs.YtaodgnladjafoaaGreatDoorW.PrintMore Go.Proofs.YtaodgnladjafoaaGreatDoor.Md Go.Proofs.YtaodgnladjafoaaGreatDoor.Mni
theorem idxH_shift (k : Rf) : ∀ (L : List (Rf × Int)) (i : Nat), idxH k L (i + 1) = (idxH k L i).map fun p => (p.1 + 1, p.2)
  | [], i => rfl
  | p :: L, i => by
    unfold idxH
    by_cases h : sameR k p.1 = true
    · rw [if_pos h, if_pos h]; rfl
    · rw [if_neg h, if_neg h]; exact idxH_shift k L (i + 1)
theorem getH_nil (k : Rf) : getH [] k = 0 := rfl
theorem getH_cons (p : Rf × Int) (L : List (Rf × Int)) (k : Rf) : getH (p :: L) k = if sameR k p.1 then p.2 else getH L k := by
  unfold getH
  rw [idxH]
  split
  · rfl
  · rw [idxH_shift]; cases idxH k L 0 <;> rfl
theorem putH_nil (k : Rf) (v : Int) : putH [] k v = [(k, v)] := rfl
theorem putH_cons (p : Rf × Int) (L : List (Rf × Int)) (k : Rf) (v : Int) : putH (p :: L) k v = if sameR k p.1 then (k, v) :: L else p :: putH L k v := by
  unfold putH
  rw [idxH]
  by_cases h : sameR k p.1 = true
  · rw [if_pos h, if_pos h]; rfl
  · rw [if_neg h, if_neg h, idxH_shift]; cases idxH k L 0 <;> rfl
theorem getH_put (k k' : Rf) (v : Int) : ∀ L : List (Rf × Int), getH (putH L k v) k' = if sameR k' k then v else getH L k'
  | [] => by rw [putH_nil, getH_cons, getH_nil]
  | p :: L => by
    rw [putH_cons]
    by_cases h : sameR k p.1 = true
    · rw [if_pos h, getH_cons, getH_cons, ← sameR_iff.1 h]
      split <;> rfl
    · rw [if_neg h, getH_cons, getH_put k k' v L, getH_cons]
      by_cases g : sameR k' p.1 = true
      · rw [if_pos g, if_pos g]
        have e := sameR_iff.1 g
        have : ¬ sameR k' k = true := fun e2 => h (sameR_iff.2 ((sameR_iff.1 e2).symm.trans e))
        rw [if_neg this]
      · rw [if_neg g, if_neg g]
theorem keys_put (k : Rf) (v : Int) : ∀ (L : List (Rf × Int)) (x : Rf), x ∈ (putH L k v).map (·.1) ↔ x = k ∨ x ∈ L.map (·.1)
  | [], x => by simp [putH_nil]
  | p :: L, x => by
    rw [putH_cons]
    by_cases h : sameR k p.1 = true
    · rw [if_pos h, List.map_cons, List.map_cons, List.mem_cons, List.mem_cons, ← sameR_iff.1 h]
      simp
    · rw [if_neg h, List.map_cons, List.map_cons, List.mem_cons, List.mem_cons, keys_put k v L x]
      constructor
      · rintro (h | h | h)
        · exact .inr (.inl h)
        · exact .inl h
        · exact .inr (.inr h)
      · rintro (h | h | h)
        · exact .inr (.inl h)
        · exact .inl h
        · exact .inr (.inr h)
def hold1 (L : List (Rf × Int)) (k : Rf) : List (Rf × Int) := putH L k (wrap64 (getH L k + 1))
def free1 (L : List (Rf × Int)) (k : Rf) : List (Rf × Int) :=
  if wrap64 (getH L k - 1) ≤ 0 then delH (putH L k (wrap64 (getH L k - 1))) k else putH L k (wrap64 (getH L k - 1))
theorem put_put (k : Rf) (v v' : Int) : ∀ L : List (Rf × Int), putH (putH L k v) k v' = putH L k v'
  | [] => by rw [putH_nil, putH_cons, if_pos (sameR_self k), putH_nil]
  | p :: L => by
    rw [putH_cons, putH_cons]
    by_cases e : sameR k p.1 = true
    · rw [if_pos e, if_pos e, putH_cons, if_pos (sameR_self k)]
    · rw [if_neg e, if_neg e, putH_cons, if_neg e, put_put k v v' L]
theorem idx_put (k : Rf) (v : Int) (L : List (Rf × Int)) : ∃ i, idxH k (putH L k v) 0 = some (i, v) := by
  cases h : idxH k (putH L k v) 0 with
  | none => exact ((idxH_none.1 h) ((keys_put k v L k).2 (.inl rfl))).elim
  | some p =>
    obtain ⟨i, x⟩ := p
    have hg := getH_put k k v L
    rw [if_pos (sameR_self k)] at hg
    unfold getH at hg
    rw [h] at hg
    refine ⟨i, ?_⟩
    rw [← hg]; rfl
theorem born_at {l : List MapEntry} (hn : (l.map (·.born)).Nodup) : ∀ {j : Nat} {e : MapEntry}, l[j]? = some e → l.findIdx? (fun x => ((x.born : Nat) : Int) == ((e.born : Nat) : Int)) = some j := by
  induction l with
  | nil => intro j e h; simp at h
  | cons a r ih =>
    intro j e h
    have hn := List.nodup_cons.1 hn
    rw [List.findIdx?_cons]
    cases j with
    | zero =>
      simp only [List.getElem?_cons_zero, Option.some.injEq] at h
      subst h
      simp
    | succ j =>
      simp only [List.getElem?_cons_succ] at h
      have hne : a.born ≠ e.born := fun g => hn.1 (List.mem_map.2 ⟨e, List.mem_of_getElem? h, g.symm⟩)
      have hb : (((a.born : Nat) : Int) == ((e.born : Nat) : Int)) = false := beq_eq_false_iff_ne.2 (fun g => hne (by exact_mod_cast g))
      rw [hb, ih hn.2 h]
      rfl
theorem born_arr {es : Array MapEntry} (hn : (es.toList.map (·.born)).Nodup) {j : Nat} {e : MapEntry} (h : es[j]? = some e) : es.findIdx? (fun x => ((x.born : Nat) : Int) == ((e.born : Nat) : Int)) = some j := by
  have : es.findIdx? (fun x => ((x.born : Nat) : Int) == ((e.born : Nat) : Int)) = es.toList.findIdx? (fun x => ((x.born : Nat) : Int) == ((e.born : Nat) : Int)) := by
    cases es; simp
  rw [this]
  exact born_at hn (by simpa using h)
theorem estore_run (w : World) (H : Nat) (L : List (Rf × Int)) (es : Array MapEntry) (clock i : Nat) (k : Rf) (x v : Int) (e : MapEntry) (hw : w.heap[H]? = some (Obj.map es clock)) (hh : HeldIn L es clock) (hi : idxH k L 0 = some (i, x)) (he : es[i]? = some e) :
    ∃ w', (Instr.entryStore 80 (.map (some H)) (goInt ((e.born : Nat) : Int)) (.int .i64 v)).run Tryz.prog w = .ok () w' ∧ HeldAt w' H (putH L k v) ∧ Mod (· = H) w w' ∧ w'.heap.size = w.heap.size := by
  have hlt := Err.lt_of_block hw
  obtain ⟨n, e1, e2⟩ := idxH_some hi
  rw [Nat.zero_add] at e1
  subst e1
  obtain ⟨e', g1, g2, g3⟩ := at_kv hh e2
  rw [he] at g1
  cases g1
  have hp : putH L k v = L.set i (k, v) := by unfold putH; rw [hi]
  rw [hp]
  refine ⟨{ w with heap := w.heap.setIfInBounds H (.map (es.modify i fun e => { e with val := .int .i64 v }) clock) }, ?_, ⟨_, _, by simp [hlt], hh.set k v x i e2 (fun e => { e with val := .int .i64 v }) (fun y hy => ?_) (fun _ => rfl)⟩, Dk.mod_setObj, by simp⟩
  · simp [Instr.entryStore, MapKept.run_getObj_map hw, asInt, asIntOf, goInt, born_arr hh.nd he, MapKept.run_setObj_map _ hw, Result.andThen]
  · have : es.toList[i]? = some e := by simpa using he
    rw [this] at hy
    cases hy
    show (e.key, _) = _
    rw [g2]; rfl
theorem entry_H (w : World) (H : Nat) (L : List (Rf × Int)) (k : Rf) (h : HeldAt w H L) : ∃ (w1 : World) (st : Int), (Instr.mapEntry 80 (.map (some H)) (.agg (ra k))).run Tryz.prog w = .ok (.tuple #[.int .i64 (getH L k), goInt st]) w1 ∧ HeldAt w1 H (putH L k (getH L k)) ∧ Mod (· = H) w w1 ∧ w1.heap.size = w.heap.size ∧
    ∀ (w2 : World) (v : Int), w2.heap[H]? = w1.heap[H]? → ∃ w3, (Instr.entryStore 80 (.map (some H)) (goInt st) (.int .i64 v)).run Tryz.prog w2 = .ok () w3 ∧ HeldAt w3 H (putH L k v) ∧ Mod (· = H) w2 w3 ∧ w3.heap.size = w2.heap.size := by
  obtain ⟨es, clock, h1, h2⟩ := h
  have hlt := Err.lt_of_block h1
  have hf := find_run k w L es.toList h2.kv
  cases hx : idxH k L 0 with
  | none =>
    rw [hx] at hf
    have hg : getH L k = 0 := by unfold getH; rw [hx]; rfl
    have hp : putH L k (getH L k) = L ++ [(k, 0)] := by rw [hg]; unfold putH; rw [hx]
    have hh := h2.push k 0 (idxH_none.1 hx)
    rw [← hp] at hh
    have h3 : ({ w with heap := w.heap.setIfInBounds H (.map (es.push { key := .agg (ra k), val := .int .i64 0, born := clock }) (clock + 1)) } : World).heap[H]? = some (.map (es.push { key := .agg (ra k), val := .int .i64 0, born := clock }) (clock + 1)) := by simp [hlt]
    refine ⟨{ w with heap := w.heap.setIfInBounds H (.map (es.push { key := .agg (ra k), val := .int .i64 0, born := clock }) (clock + 1)) }, (clock : Int), ?_, ⟨_, _, h3, hh⟩, Dk.mod_setObj, by simp, ?_⟩
    · rw [hg]
      have hz : ∀ u : World, (zeroValue 3).run Tryz.prog u = .ok (.int .i64 0) u := fun u => by kernel_rfl
      simp only [Instr.mapEntry, Sem.run_bind, run_underlying Tryz.underlying80, MapKept.run_getObj_map h1, Sem.run_pure, Result.andThen_ok, check_key, hf, Option.map_none, hz, MapKept.run_setObj_map _ h1]
    · intro w2 v hw2
      rw [h3] at hw2
      obtain ⟨i, hi⟩ := idx_put k (getH L k) L
      obtain ⟨n, e1, e2⟩ := idxH_some hi
      rw [Nat.zero_add] at e1
      subst e1
      obtain ⟨e, g1, g2, g3⟩ := at_kv hh e2
      have hb : e.born = clock := by
        have hm : e ∈ (es.push { key := .agg (ra k), val := .int .i64 0, born := clock }).toList := by
          have : (es.push { key := .agg (ra k), val := .int .i64 0, born := clock }).toList[i]? = some e := by rw [Array.getElem?_toList]; exact g1
          exact List.mem_of_getElem? this
        rw [Array.toList_push, List.mem_append, List.mem_singleton] at hm
        rcases hm with hm | rfl
        · obtain ⟨p, hp1, hp2, hp3⟩ := key_of h2 hm
          rw [g2] at hp2
          have : k = p.1 := ra_inj (by simpa using hp2)
          exact ((idxH_none.1 hx) (by rw [this]; exact List.mem_map.2 ⟨p, hp1, rfl⟩)).elim
        · rfl
      obtain ⟨w3, k1, k2, k3, k4⟩ := estore_run w2 H _ _ _ i k _ v e hw2 hh hi g1
      rw [put_put] at k2
      rw [hb] at k1
      exact ⟨w3, k1, k2, k3, k4⟩
  | some p =>
    obtain ⟨i, x⟩ := p
    rw [hx] at hf
    have hg : getH L k = x := by unfold getH; rw [hx]; rfl
    have hp : putH L k (getH L k) = L.set i (k, x) := by rw [hg]; unfold putH; rw [hx]
    obtain ⟨n, e1, e2⟩ := idxH_some hx
    rw [Nat.zero_add] at e1
    subst e1
    obtain ⟨e, g1, g2, g3⟩ := at_kv h2 e2
    have hh := h2.set k x x i e2 (fun e => { e with key := .agg (ra k) }) (fun y hy => by
      have : es.toList[i]? = some e := by simpa using g1
      rw [this] at hy
      cases hy
      show (_, e.val) = _
      rw [g3]; rfl) (fun _ => rfl)
    rw [← hp] at hh
    have h3 : ({ w with heap := w.heap.setIfInBounds H (.map (es.modify i fun e => { e with key := .agg (ra k) }) clock) } : World).heap[H]? = some (.map (es.modify i fun e => { e with key := .agg (ra k) }) clock) := by simp [hlt]
    refine ⟨{ w with heap := w.heap.setIfInBounds H (.map (es.modify i fun e => { e with key := .agg (ra k) }) clock) }, ((e.born : Nat) : Int), ?_, ⟨_, _, h3, hh⟩, Dk.mod_setObj, by simp, ?_⟩
    · rw [hg]
      simp only [Instr.mapEntry, Sem.run_bind, run_underlying Tryz.underlying80, MapKept.run_getObj_map h1, Sem.run_pure, Result.andThen_ok, check_key, hf, Option.map_some, g1, g2, Option.getD_some, stays_run, MapKept.run_setObj_map _ h1]
    · intro w2 v hw2
      rw [h3] at hw2
      obtain ⟨i', hi⟩ := idx_put k (getH L k) L
      have ei : i' = i := by
        have h5 : idxH k (L.set i (k, x)) 0 = some (i', getH L k) := by rw [← hp]; exact hi
        obtain ⟨n, e1, e3⟩ := idxH_some h5
        rw [Nat.zero_add] at e1
        subst e1
        have hn := h2.ks
        rw [← nodup_set (v := x) e2] at hn
        have a1 : ((L.set i (k, x)).map (·.1))[i']? = some k := by rw [List.getElem?_map, e3]; rfl
        have a2 : ((L.set i (k, x)).map (·.1))[i]? = some k := by
          rw [List.getElem?_map, List.getElem?_set]
          have hl : i < L.length := by
            rcases Nat.lt_or_ge i L.length with g | g
            · exact g
            · rw [List.getElem?_eq_none g] at e2; cases e2
          simp [hl]
        have b1 : i' < ((L.set i (k, x)).map (·.1)).length := by
          rcases Nat.lt_or_ge i' ((L.set i (k, x)).map (·.1)).length with g | g
          · exact g
          · rw [List.getElem?_eq_none g] at a1; cases a1
        exact (List.getElem?_inj b1 hn).1 (a1.trans a2.symm)
      subst ei
      obtain ⟨w3, k1, k2, k3, k4⟩ := estore_run w2 H _ _ _ i' k _ v { e with key := .agg (ra k) } hw2 hh hi (by rw [Array.getElem?_modify, if_pos rfl, g1]; rfl)
      rw [put_put] at k2
      exact ⟨w3, k1, k2, k3, k4⟩
end Go.Proofs.YtaodgnladjafoaaGreatDoor.Sto
