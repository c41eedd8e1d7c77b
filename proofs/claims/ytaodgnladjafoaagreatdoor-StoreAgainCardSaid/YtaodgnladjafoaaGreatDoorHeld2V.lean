/- Words that the proof uses. -/
import Derived.Test.YtaodgnladjafoaaGreatDoorStore1V
set_option linter.unusedVariables false
set_option linter.unusedSimpArgs false
namespace Go.Proofs.YtaodgnladjafoaaGreatDoor.Sto
open Go.RowKit Go.Proofs.YtaodgnladjafoaaGreatDoorW.PrintWords Go.Proofs.YtaodgnladjafoaaGreatDoorW.PrintLast Go.Proofs.YtaodgnladjafoaaGreatDoorW.PrintMore Go.Proofs.YtaodgnladjafoaaGreatDoor.Md Go.Proofs.YtaodgnladjafoaaGreatDoor.Mni
theorem idxH_shift (k : Rf) : ∀ (L : List (Rf × Int)) (i : Nat), idxH k L (i + 1) = (idxH k L i).map fun p => (p.1 + 1, p.2)
  | [], i => rfl
  | p :: L, i => by
    unfold idxH
    by_cases h : sameR k p.1 = true
    · rw [if_pos h, if_pos h]; rfl
    · rw [if_neg h, if_neg h]; exact idxH_shift k L (i + 1)
theorem getH_nil (k : Rf) : getH [] k = 0 := rfl
theorem getH_cons (p : Rf × Int) (L : List (Rf × Int)) (k : Rf) : getH (p :: L) k = if sameR k p.1 then p.2 else getH L k := by
  unfold getH
  rw [idxH]
  split
  · rfl
  · rw [idxH_shift]; cases idxH k L 0 <;> rfl
theorem putH_nil (k : Rf) (v : Int) : putH [] k v = [(k, v)] := rfl
theorem putH_cons (p : Rf × Int) (L : List (Rf × Int)) (k : Rf) (v : Int) : putH (p :: L) k v = if sameR k p.1 then (k, v) :: L else p :: putH L k v := by
  unfold putH
  rw [idxH]
  by_cases h : sameR k p.1 = true
  · rw [if_pos h, if_pos h]; rfl
  · rw [if_neg h, if_neg h, idxH_shift]; cases idxH k L 0 <;> rfl
theorem delH_nil (k : Rf) : delH [] k = [] := rfl
theorem delH_cons (p : Rf × Int) (L : List (Rf × Int)) (k : Rf) : delH (p :: L) k = if sameR k p.1 then L else p :: delH L k := by
  unfold delH
  rw [idxH]
  by_cases h : sameR k p.1 = true
  · rw [if_pos h, if_pos h]; rfl
  · rw [if_neg h, if_neg h, idxH_shift]; cases idxH k L 0 <;> rfl
theorem getH_put (k k' : Rf) (v : Int) : ∀ L : List (Rf × Int), getH (putH L k v) k' = if sameR k' k then v else getH L k'
  | [] => by rw [putH_nil, getH_cons, getH_nil]
  | p :: L => by
    rw [putH_cons]
    by_cases h : sameR k p.1 = true
    · rw [if_pos h, getH_cons, getH_cons, ← sameR_iff.1 h]
      split <;> rfl
    · rw [if_neg h, getH_cons, getH_put k k' v L, getH_cons]
      by_cases g : sameR k' p.1 = true
      · rw [if_pos g, if_pos g]
        have e := sameR_iff.1 g
        have : ¬ sameR k' k = true := fun e2 => h (sameR_iff.2 ((sameR_iff.1 e2).symm.trans e))
        rw [if_neg this]
      · rw [if_neg g, if_neg g]
structure Good (L : List (Rf × Int)) : Prop where
  pos : ∀ p ∈ L, 0 < p.2
  nd : (L.map (·.1)).Nodup
theorem Good.nil : Good [] := ⟨fun _ hp => (List.not_mem_nil hp).elim, List.nodup_nil⟩
theorem Good.tail {p : Rf × Int} {L : List (Rf × Int)} (h : Good (p :: L)) : Good L := ⟨fun q hq => h.pos q (List.mem_cons_of_mem _ hq), (List.nodup_cons.1 h.nd).2⟩
theorem getH_no {k : Rf} : ∀ {L : List (Rf × Int)}, k ∉ L.map (·.1) → getH L k = 0
  | [], _ => rfl
  | p :: L, h => by
    rw [getH_cons, if_neg (fun e => h (by rw [sameR_iff.1 e]; exact List.mem_map.2 ⟨p, List.mem_cons_self, rfl⟩))]
    exact getH_no (fun e => h (by rw [List.map_cons]; exact List.mem_cons_of_mem _ e))
theorem Good.none {L : List (Rf × Int)} (h : Good L) (h0 : ∀ k, getH L k = 0) : L = [] := by
  cases L with
  | nil => rfl
  | cons p L =>
    have := h0 p.1
    rw [getH_cons, if_pos (sameR_self _)] at this
    have := h.pos p List.mem_cons_self
    omega
theorem keys_put (k : Rf) (v : Int) : ∀ (L : List (Rf × Int)) (x : Rf), x ∈ (putH L k v).map (·.1) ↔ x = k ∨ x ∈ L.map (·.1)
  | [], x => by simp [putH_nil]
  | p :: L, x => by
    rw [putH_cons]
    by_cases h : sameR k p.1 = true
    · rw [if_pos h, List.map_cons, List.map_cons, List.mem_cons, List.mem_cons, ← sameR_iff.1 h]
      simp
    · rw [if_neg h, List.map_cons, List.map_cons, List.mem_cons, List.mem_cons, keys_put k v L x]
      constructor
      · rintro (h | h | h)
        · exact .inr (.inl h)
        · exact .inl h
        · exact .inr (.inr h)
      · rintro (h | h | h)
        · exact .inr (.inl h)
        · exact .inl h
        · exact .inr (.inr h)
theorem Good.put {k : Rf} {v : Int} (hv : 0 < v) : ∀ {L : List (Rf × Int)}, Good L → Good (putH L k v)
  | [], _ => ⟨fun p hp => by
      rw [putH_nil, List.mem_singleton] at hp
      subst hp; exact hv, by rw [putH_nil]; simp⟩
  | p :: L, h => by
    have ih := Good.put hv h.tail (k := k)
    have hn := List.nodup_cons.1 h.nd
    rw [putH_cons]
    by_cases e : sameR k p.1 = true
    · rw [if_pos e]
      refine ⟨fun q hq => ?_, ?_⟩
      · rcases List.mem_cons.1 hq with rfl | hq
        · exact hv
        · exact h.pos q (List.mem_cons_of_mem _ hq)
      · rw [List.map_cons]
        refine List.nodup_cons.2 ⟨?_, hn.2⟩
        show k ∉ _
        rw [sameR_iff.1 e]; exact hn.1
    · rw [if_neg e]
      refine ⟨fun q hq => ?_, ?_⟩
      · rcases List.mem_cons.1 hq with rfl | hq
        · exact h.pos q List.mem_cons_self
        · exact ih.pos q hq
      · rw [List.map_cons]
        refine List.nodup_cons.2 ⟨fun g => ?_, ih.nd⟩
        rcases (keys_put k v L p.1).1 g with g | g
        · exact e (sameR_iff.2 g.symm)
        · exact hn.1 g
theorem del_put (k : Rf) (v : Int) : ∀ L : List (Rf × Int), delH (putH L k v) k = delH L k
  | [] => by rw [putH_nil, delH_cons, if_pos (sameR_self k)]; rfl
  | p :: L => by
    rw [putH_cons, delH_cons]
    by_cases e : sameR k p.1 = true
    · rw [if_pos e, if_pos e, delH_cons, if_pos (sameR_self k)]
    · rw [if_neg e, if_neg e, delH_cons, if_neg e, del_put k v L]
theorem del_sub (k : Rf) : ∀ L : List (Rf × Int), (delH L k).Sublist L
  | [] => List.Sublist.refl _
  | p :: L => by
    rw [delH_cons]
    split
    · exact List.sublist_cons_self _ _
    · exact (del_sub k L).cons_cons p
theorem Good.del {k : Rf} {L : List (Rf × Int)} (h : Good L) : Good (delH L k) :=
  ⟨fun p hp => h.pos p ((del_sub k L).subset hp), ((del_sub k L).map _).nodup h.nd⟩
theorem getH_del (k k' : Rf) : ∀ L : List (Rf × Int), (L.map (·.1)).Nodup → getH (delH L k) k' = if sameR k' k then 0 else getH L k'
  | [], _ => by rw [delH_nil, getH_nil]; split <;> rfl
  | p :: L, hn => by
    have hn := List.nodup_cons.1 hn
    rw [delH_cons]
    by_cases e : sameR k p.1 = true
    · have ek := sameR_iff.1 e
      rw [if_pos e, getH_cons, ek]
      by_cases g : sameR k' p.1 = true
      · rw [if_pos g, sameR_iff.1 g]; exact getH_no hn.1
      · rw [if_neg g, if_neg g]
    · rw [if_neg e, getH_cons, getH_cons, getH_del k k' L hn.2]
      by_cases g : sameR k' p.1 = true
      · rw [if_pos g, if_pos g]
        have : ¬ sameR k' k = true := fun e2 => e (sameR_iff.2 ((sameR_iff.1 e2).symm.trans (sameR_iff.1 g)))
        rw [if_neg this]
      · rw [if_neg g, if_neg g]
def free1 (L : List (Rf × Int)) (k : Rf) : List (Rf × Int) :=
  if wrap64 (getH L k - 1) ≤ 0 then delH (putH L k (wrap64 (getH L k - 1))) k else putH L k (wrap64 (getH L k - 1))
def cnt (k : Rf) : List Rf → Int
  | [] => 0
  | r :: l => (if sameR k r then 1 else 0) + cnt k l
theorem cnt0 (k : Rf) : ∀ l, 0 ≤ cnt k l
  | [] => Int.le_refl _
  | r :: l => by unfold cnt; have := cnt0 k l; split <;> omega
theorem free_spec : ∀ (l : List Rf) (L : List (Rf × Int)), Good L → (∀ k, cnt k l ≤ getH L k) → (∀ k, getH L k ≤ 1000000) → Good (l.foldl free1 L) ∧ ∀ k, getH (l.foldl free1 L) k = getH L k - cnt k l
  | [], L, h, hc, hb => ⟨h, fun k => by simp [cnt]⟩
  | r :: l, L, h, hc, hb => by
    have hcr := hc r
    have c0 := cnt0 r l
    have gb := hb r
    have hcr' : cnt r (r :: l) = 1 + cnt r l := by
      show (if sameR r r then 1 else 0) + cnt r l = _
      rw [if_pos (sameR_self r)]
    rw [hcr'] at hcr
    have ew : wrap64 (getH L r - 1) = getH L r - 1 := by unfold wrap64; omega
    have hgd : Good (free1 L r) ∧ ∀ k, getH (free1 L r) k = getH L k - (if sameR k r then 1 else 0) := by
      unfold free1
      rw [ew]
      by_cases hz : getH L r - 1 ≤ 0
      · rw [if_pos hz, del_put]
        refine ⟨h.del, fun k => ?_⟩
        rw [getH_del r k L h.nd]
        by_cases e : sameR k r = true
        · rw [if_pos e, if_pos e, sameR_iff.1 e]; omega
        · rw [if_neg e, if_neg e, Int.sub_zero]
      · rw [if_neg hz]
        refine ⟨h.put (by omega), fun k => ?_⟩
        rw [getH_put]
        by_cases e : sameR k r = true
        · rw [if_pos e, if_pos e, sameR_iff.1 e]
        · rw [if_neg e, if_neg e, Int.sub_zero]
    obtain ⟨hg, hgt⟩ := hgd
    have hck : ∀ k, cnt k (r :: l) = (if sameR k r then 1 else 0) + cnt k l := fun k => rfl
    obtain ⟨k1, k2⟩ := free_spec l (free1 L r) hg (fun k => by rw [hgt]; have := hc k; rw [hck] at this; omega) (fun k => by rw [hgt]; have := hb k; split <;> omega)
    refine ⟨k1, fun k => ?_⟩
    rw [List.foldl_cons, k2, hgt, hck]
    omega
end Go.Proofs.YtaodgnladjafoaaGreatDoor.Sto
