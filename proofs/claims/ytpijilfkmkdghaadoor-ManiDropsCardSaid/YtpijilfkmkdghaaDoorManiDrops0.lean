/- ManiDrops, the plain law: swept, a right manifest of which lists were dropped is right again. -/
import Derived.Test.YtpijilfkmkdghaaDoorMani10
set_option linter.unusedVariables false
set_option linter.unusedSimpArgs false
namespace Go.Proofs.YtpijilfkmkdghaaDoor.Mni
open Go.RowKit Go.Proofs.YtpijilfkmkdghaaDoorW.PrintWords Go.Proofs.YtpijilfkmkdghaaDoorW.PrintLast Go.Proofs.YtpijilfkmkdghaaDoorW.PrintMore Go.Proofs.YtpijilfkmkdghaaDoor.Md Go.Proofs.YtpijilfkmkdghaaDoor.QManiBack
/-- marks of one are among the other's -/
def Under (a b : List Bool) : Prop := a.length = b.length ∧ ∀ i : Nat, a.getD i false = true → b.getD i false = true
theorem getD_set (l : List Bool) (a i : Nat) : (l.set a true).getD i false = true ↔ l.getD i false = true ∨ (i = a ∧ a < l.length) := by
  simp only [List.getD_eq_getElem?_getD, List.getElem?_set]
  by_cases h : a = i
  · subst h
    rw [if_pos rfl]
    by_cases hl : a < l.length
    · simp [hl]
    · simp [hl]
  · rw [if_neg h]
    constructor
    · exact .inl
    · rintro (h2 | h2)
      · exact h2
      · omega
theorem Under.set {a b : List Bool} (h : Under a b) (i : Nat) : Under (a.set i true) (b.set i true) := by
  refine ⟨by rw [List.length_set, List.length_set]; exact h.1, fun j hj => ?_⟩
  rw [getD_set] at hj ⊢
  rcases hj with hj | hj
  · exact .inl (h.2 j hj)
  · exact .inr ⟨hj.1, by rw [← h.1]; exact hj.2⟩
theorem Under.refl (a : List Bool) : Under a a := ⟨rfl, fun _ h => h⟩
theorem Under.trans {a b c : List Bool} (h : Under a b) (k : Under b c) : Under a c := ⟨h.1.trans k.1, fun i hi => k.2 i (h.2 i hi)⟩
theorem Under.up (a : List Bool) (i : Nat) : Under a (a.set i true) := ⟨by rw [List.length_set], fun j hj => (getD_set a i j).2 (.inl hj)⟩
theorem markP_up : ∀ (n a : Nat) (out out' : List Bool), markP n a out = some out' → Under out out'
  | 0, _, out, out', h => by cases h; exact Under.refl _
  | n + 1, a, out, out', h => by
    unfold markP at h
    split at h
    · cases h
    · exact (Under.up out a).trans (markP_up n (a + 1) _ _ h)
theorem markP_under : ∀ (n a : Nat) (p q q' : List Bool), Under p q → markP n a q = some q' → ∃ p', markP n a p = some p' ∧ Under p' q'
  | 0, _, p, q, q', hu, h => by cases h; exact ⟨p, rfl, hu⟩
  | n + 1, a, p, q, q', hu, h => by
    unfold markP at h ⊢
    by_cases hq : q.getD a false = true
    · rw [if_pos hq] at h; cases h
    · rw [if_neg hq] at h
      rw [if_neg (fun hp => hq (hu.2 a hp))]
      exact markP_under n (a + 1) _ _ _ (hu.set a) h
theorem markR_under (n : Int) {refs' refs : List Rf} (hs : refs'.Sublist refs) : ∀ (p q q' : List Bool), Under p q → markR n refs q = some q' → ∃ p', markR n refs' p = some p' ∧ Under p' q' := by
  induction hs with
  | slnil => intro p q q' hu h; cases h; exact ⟨p, rfl, hu⟩
  | cons r hs ih =>
    intro p q q' hu h
    rw [markR_cons] at h
    split at h
    · cases hm : markP (pagesV r.f1).toNat r.f0.toNat q with
      | none => rw [hm] at h; cases h
      | some q2 =>
        rw [hm] at h
        exact ih p q2 q' (hu.trans (markP_up _ _ _ _ hm)) h
    · cases h
  | cons_cons r hs ih =>
    intro p q q' hu h
    rw [markR_cons] at h ⊢
    by_cases hR : rightV r.f0 r.f1 n = true
    · rw [if_pos hR] at h ⊢
      cases hm : markP (pagesV r.f1).toNat r.f0.toNat q with
      | none => rw [hm] at h; cases h
      | some q2 =>
        rw [hm] at h
        obtain ⟨p2, h1, h2⟩ := markP_under _ _ _ _ _ hu hm
        rw [h1]
        exact ih p2 q2 q' h2 h
    · rw [if_neg hR] at h; cases h
/-- how a text's number goes on -/
theorem cnt_step (nm : List Bool) (x : Nat) (h : x < nm.length) : (nm.take (x + 1)).count true = (nm.take x).count true + (if nm[x] = true then 1 else 0) := by
  rw [← List.take_append_getElem h, List.count_append]
  cases nm[x] <;> rfl
theorem cnt_mono (nm : List Bool) : ∀ (b a : Nat), a ≤ b → (nm.take a).count true ≤ (nm.take b).count true := by
  intro b a h
  exact (List.take_sublist_take_left h).count_le true
theorem cnt_lt {nm : List Bool} {x y : Nat} (hx : nm.getD x false = true) (h : x < y) : (nm.take x).count true < (nm.take y).count true := by
  have hl : x < nm.length := by
    rcases Nat.lt_or_ge x nm.length with h | h
    · exact h
    · rw [List.getD_eq_getElem?_getD, List.getElem?_eq_none h] at hx; simp at hx
  have h1 := cnt_step nm x hl
  have h2 := cnt_mono nm y (x + 1) h
  have h3 : nm[x] = true := by rw [List.getD_eq_getElem?_getD, List.getElem?_eq_getElem hl] at hx; exact hx
  rw [if_pos h3] at h1
  omega
theorem cnt_all {nm : List Bool} {x : Nat} (hx : nm.getD x false = true) : (nm.take x).count true < nm.count true := by
  have hl : x < nm.length := by
    rcases Nat.lt_or_ge x nm.length with h | h
    · exact h
    · rw [List.getD_eq_getElem?_getD, List.getElem?_eq_none h] at hx; simp at hx
  have h := cnt_lt hx hl
  rw [List.take_length] at h
  exact h
theorem cnt_inj {nm : List Bool} {x y : Nat} (hx : nm.getD x false = true) (hy : nm.getD y false = true) (h : (nm.take x).count true = (nm.take y).count true) : x = y := by
  rcases Nat.lt_trichotomy x y with g | g | g
  · have := cnt_lt hx g; omega
  · exact g
  · have := cnt_lt hy g; omega
/-- each new number is some text's -/
theorem cnt_onto : ∀ (nm : List Bool) (j : Nat), j < nm.count true → ∃ x, nm.getD x false = true ∧ (nm.take x).count true = j
  | [], j, h => by simp at h
  | b :: nm, j, h => by
    cases b with
    | false =>
      obtain ⟨x, h1, h2⟩ := cnt_onto nm j (by simpa using h)
      exact ⟨x + 1, by simpa using h1, by simpa using h2⟩
    | true =>
      cases j with
      | zero => exact ⟨0, rfl, rfl⟩
      | succ j =>
        obtain ⟨x, h1, h2⟩ := cnt_onto nm j (by simpa using h)
        exact ⟨x + 1, by simpa using h1, by simpa using h2⟩
theorem stacks_swept (m : Man) (nm : List Bool) : stacks (sweptM m nm) = (stacks m).map (fun l => l.map (cnt nm)) := by
  unfold stacks sweptM
  by_cases h : m.upper = -1
  · simp [h]
  · have h2 : cnt nm m.upper ≠ -1 := by unfold cnt; omega
    simp [h, h2]
theorem nodup_map {l : List Int} (f : Int → Int) (h : l.Nodup) (hf : ∀ x ∈ l, ∀ y ∈ l, f x = f y → x = y) : (l.map f).Nodup := by
  induction l with
  | nil => exact List.nodup_nil
  | cons a l ih =>
    have hd := List.nodup_cons.1 h
    rw [List.map_cons, List.nodup_cons]
    refine ⟨fun hm => ?_, ih hd.2 (fun x hx y hy => hf x (List.mem_cons_of_mem _ hx) y (List.mem_cons_of_mem _ hy))⟩
    obtain ⟨y, hy, he⟩ := List.mem_map.1 hm
    have := hf y (List.mem_cons_of_mem _ hy) a List.mem_cons_self he
    exact hd.1 (this ▸ hy)
/-- lists were dropped, and it was swept -/
theorem drops {m m' : Man} {n : Int} (h : rightM m n = true) (hr : m'.refs = m.refs) (hs : m'.stack = m.stack) (hu : m'.upper = m.upper ∨ m'.upper = -1) (hn : m'.snaps = m.snaps ∨ m'.snaps = []) :
    ∃ nm, named m' = some nm ∧ rightM (sweptM m' nm) n = true := by
  obtain ⟨h1, h2, h3, ⟨nm0, h4, _⟩, out, h5⟩ := rightM_parts h
  obtain ⟨_, f2, _⟩ := named_fine h4
  have hsub : ∀ l ∈ stacks m', l ∈ stacks m := by
    intro l hl
    unfold stacks at hl ⊢
    rw [hs] at hl
    simp only [List.mem_cons, List.mem_append] at hl ⊢
    rcases hl with rfl | hl | hl
    · exact .inl rfl
    · rcases hu with e | e
      · rw [e] at hl; exact .inr (.inl hl)
      · rw [if_pos e] at hl; exact (List.not_mem_nil hl).elim
    · rcases hn with e | e
      · rw [e] at hl; exact .inr (.inr hl)
      · rw [e] at hl; exact (List.not_mem_nil hl).elim
  obtain ⟨nm, hnm⟩ := markS_mk m'.refs.length (stacks m') (List.replicate m'.refs.length false) (fun l hl => by rw [hr]; exact f2 l (hsub l hl))
  obtain ⟨g1, g2, g3⟩ := named_fine (show named m' = some nm from hnm)
  have hk : (keepR nm m'.refs).length = nm.count true := keepR_len nm m'.refs g1
  have hnamed : ∀ l ∈ stacks m', ∀ x ∈ l, nm.getD x.toNat false = true := fun l hl x hx => by
    have hx0 := (g2 l hl).1 x hx
    exact (g3 x.toNat (by omega)).2 ⟨l, hl, by rw [show ((x.toNat : Nat) : Int) = x by omega]; exact hx⟩
  have hfine : ∀ l ∈ stacks (sweptM m' nm), (∀ x ∈ l, 0 ≤ x ∧ x < (sweptM m' nm).refs.length) ∧ l.Nodup := by
    intro l hl
    rw [stacks_swept] at hl
    obtain ⟨l0, hl0, rfl⟩ := List.mem_map.1 hl
    refine ⟨fun x hx => ?_, nodup_map _ (g2 l0 hl0).2 (fun x hx y hy he => ?_)⟩
    · obtain ⟨y, hy, rfl⟩ := List.mem_map.1 hx
      have := cnt_all (hnamed l0 hl0 y hy)
      show 0 ≤ cnt nm y ∧ cnt nm y < ((keepR nm m'.refs).length : Int)
      rw [hk]
      unfold cnt
      omega
    · have h1 := (g2 l0 hl0).1 x hx
      have h2 := (g2 l0 hl0).1 y hy
      unfold cnt at he
      have := cnt_inj (hnamed l0 hl0 x hx) (hnamed l0 hl0 y hy) (by omega)
      omega
  obtain ⟨nm2, hnm2⟩ := markS_mk (sweptM m' nm).refs.length (stacks (sweptM m' nm)) (List.replicate (sweptM m' nm).refs.length false) hfine
  obtain ⟨k1, k2, k3⟩ := named_fine (show named (sweptM m' nm) = some nm2 from hnm2)
  have hall : nm2.contains false = false := by
    cases hc : nm2.contains false with
    | false => rfl
    | true =>
      have hm : false ∈ nm2 := by simpa using hc
      obtain ⟨j, hj, he⟩ := List.getElem_of_mem hm
      have hj2 : j < nm.count true := by rw [← hk]; rw [k1] at hj; exact hj
      obtain ⟨x, hx1, hx2⟩ := cnt_onto nm j hj2
      have hxl : x < m'.refs.length := by
        rw [← g1]
        rcases Nat.lt_or_ge x nm.length with h | h
        · exact h
        · rw [List.getD_eq_getElem?_getD, List.getElem?_eq_none h] at hx1; simp at hx1
      obtain ⟨l, hl, hxl2⟩ := (g3 x hxl).1 hx1
      have := (k3 j (by rw [← k1]; exact hj)).2 ⟨l.map (cnt nm), by rw [stacks_swept]; exact List.mem_map_of_mem hl, List.mem_map.2 ⟨(x : Int), hxl2, by rw [cnt_nat, hx2]⟩⟩
      rw [List.getD_eq_getElem?_getD, List.getElem?_eq_getElem hj, he] at this
      cases this
  obtain ⟨p', hp, _⟩ := markR_under n (keepR_sub nm m.refs) (start n.toNat) (start n.toNat) out (Under.refl _) h5
  have hmk : marks (sweptM m' nm) n = some p' := by
    unfold marks
    show markR n (keepR nm m'.refs) _ = _
    rw [hr]; exact hp
  have hsz : sizedB (sweptM m' nm) = true := by
    unfold sizedB at h3 ⊢
    simp only [Bool.and_eq_true, decide_eq_true_eq, Bool.not_eq_true'] at h3 ⊢
    obtain ⟨⟨e1, e2, e3, e4⟩, e5⟩ := h3
    have hkl : (keepR nm m'.refs).length ≤ m.refs.length := by rw [← hr]; exact (keepR_sub nm m'.refs).length_le
    have hup : (if m'.upper = -1 then -1 else cnt nm m'.upper) ≥ -1 := by
      split
      · omega
      · unfold cnt; omega
    refine ⟨⟨by show (keepR nm m'.refs).length ≤ 64; omega, by show (m'.stack.map _).length ≤ 8; rw [List.length_map, hs]; exact e2, ?_, hup⟩, ?_⟩
    · show (m'.snaps.map _).length ≤ 16
      rw [List.length_map]
      rcases hn with e | e
      · rw [e]; exact e3
      · rw [e]; exact Nat.zero_le _
    · show anyLong (m'.snaps.map _) = false
      rcases hn with e | e
      · rw [e]
        unfold anyLong at e5 ⊢
        rw [List.any_map]
        have : ((fun x : List Int => decide (x.length > 9)) ∘ fun l : List Int => l.map (cnt nm)) = (fun x : List Int => decide (x.length > 9)) := by
          funext l
          simp
        rw [this]; exact e5
      · rw [e]; rfl
  exact ⟨nm, hnm, rightM_mk h1 h2 hsz hnm2 hall hmk⟩
end Go.Proofs.YtpijilfkmkdghaaDoor.Mni
