/- Several texts in one: words that the proof of the law uses. -/
import Derived.Test.YtaodgnladjafoaaGreatDoorMani89V
set_option linter.unusedVariables false
set_option linter.unusedSimpArgs false
namespace Go.Proofs.YtaodgnladjafoaaGreatDoor.Mni
open Go.RowKit Go.Proofs.YtaodgnladjafoaaGreatDoorW.PrintWords Go.Proofs.YtaodgnladjafoaaGreatDoorW.PrintLast Go.Proofs.YtaodgnladjafoaaGreatDoorW.PrintMore Go.Proofs.YtaodgnladjafoaaGreatDoor.Md Go.Proofs.YtaodgnladjafoaaGreatDoor.QStoreLasts
theorem rightM_parts {m : Man} {n : Int} (h : rightM m n = true) : 2 ≤ n ∧ n ≤ 2048 ∧ sizedB m = true ∧ (∃ nm, named m = some nm ∧ nm.contains false = false) ∧ ∃ out, marks m n = some out := by
  unfold rightM at h
  simp only [Bool.and_eq_true, decide_eq_true_eq, Option.isSome_iff_exists] at h
  obtain ⟨⟨h1, h2⟩, h3, ⟨nm, h4⟩, ⟨out, h5⟩, h6⟩ := h
  rw [h4] at h6
  exact ⟨h1, h2, h3, ⟨nm, h4, by simpa using h6⟩, out, h5⟩
theorem right_refs (n : Int) : ∀ (refs : List Rf) (out out' : List Bool), markR n refs out = some out' → ∀ r ∈ refs, rightV r.f0 r.f1 n = true
  | [], _, _, _, r, hr => (List.not_mem_nil hr).elim
  | x :: refs, out, out', h, r, hr => by
    rw [markR_cons] at h
    by_cases hR : rightV x.f0 x.f1 n = true
    · rw [if_pos hR] at h
      cases hm : markP (pagesV x.f1).toNat x.f0.toNat out with
      | none => rw [hm] at h; cases h
      | some o2 =>
        rw [hm, Option.bind_some] at h
        rcases List.mem_cons.1 hr with rfl | hr
        · exact hR
        · exact right_refs n refs o2 out' h r hr
    · rw [if_neg hR] at h; cases h
theorem pages_tdiv {y : Int} (h : 0 < pagesV y) : (y + 63).tdiv 64 = pagesV y ∧ 1 ≤ y ∧ y ≤ 16384 := by
  unfold pagesV at h ⊢
  by_cases h1 : y < 1
  · rw [if_pos h1] at h; omega
  · rw [if_neg h1] at h ⊢
    by_cases h2 : y > 16384
    · rw [if_pos h2] at h; omega
    · rw [if_neg h2, Int.tdiv_eq_ediv_of_nonneg (by omega)]
      exact ⟨rfl, by omega, by omega⟩
theorem markL_fine (n : Nat) : ∀ (l met : List Int) (out out' : List Bool), markL n met l out = some out' → out.length = n → (∀ x ∈ l, 0 ≤ x ∧ x < n) ∧ l.Nodup ∧ (∀ x ∈ l, x ∉ met) ∧ ∀ j : Nat, j < n → (out'.getD j false = true ↔ out.getD j false = true ∨ (j : Int) ∈ l)
  | [], met, out, out', h, _ => by
    cases h
    exact ⟨fun x hx => (List.not_mem_nil hx).elim, List.nodup_nil, fun x hx => (List.not_mem_nil hx).elim, fun j _ => by simp⟩
  | k :: l, met, out, out', h, hl => by
    unfold markL at h
    by_cases hc : k < 0 ∨ (n : Int) ≤ k ∨ k ∈ met
    · rw [if_pos hc] at h; cases h
    · rw [if_neg hc] at h
      obtain ⟨g1, g2, g3, g4⟩ := markL_fine n l (k :: met) _ out' h (by rw [List.length_set]; exact hl)
      have hk : 0 ≤ k ∧ k < n := by omega
      refine ⟨fun x hx => ?_, List.nodup_cons.2 ⟨fun hk2 => g3 k hk2 List.mem_cons_self, g2⟩, fun x hx => ?_, fun j hj => ?_⟩
      · rcases List.mem_cons.1 hx with rfl | hx
        · exact hk
        · exact g1 x hx
      · rcases List.mem_cons.1 hx with rfl | hx
        · exact fun h => hc (.inr (.inr h))
        · exact fun h => g3 x hx (List.mem_cons_of_mem _ h)
      · rw [g4 j hj]
        have e : (out.set k.toNat true).getD j false = true ↔ out.getD j false = true ∨ (j : Int) = k := by
          simp only [List.getD_eq_getElem?_getD, List.getElem?_set]
          by_cases hjk : k.toNat = j
          · rw [if_pos hjk, if_pos (by omega)]
            simp
            right; omega
          · rw [if_neg hjk]
            constructor
            · exact .inl
            · rintro (h | h)
              · exact h
              · omega
        rw [e, List.mem_cons]
        constructor
        · rintro ((h | h) | h)
          · exact .inl h
          · exact .inr (.inl h)
          · exact .inr (.inr h)
        · rintro (h | h | h)
          · exact .inl (.inl h)
          · exact .inl (.inr h)
          · exact .inr h
theorem markL_mk (n : Nat) : ∀ (l met : List Int) (out : List Bool), (∀ x ∈ l, 0 ≤ x ∧ x < n) → l.Nodup → (∀ x ∈ l, x ∉ met) → ∃ out', markL n met l out = some out'
  | [], met, out, _, _, _ => ⟨out, rfl⟩
  | k :: l, met, out, h1, h2, h3 => by
    have hk := h1 k List.mem_cons_self
    have hd := List.nodup_cons.1 h2
    unfold markL
    rw [if_neg (by
      rintro (h | h | h)
      · omega
      · omega
      · exact h3 k List.mem_cons_self h)]
    exact markL_mk n l (k :: met) _ (fun x hx => h1 x (List.mem_cons_of_mem _ hx)) hd.2 (fun x hx hm => by
      rcases List.mem_cons.1 hm with rfl | hm
      · exact hd.1 hx
      · exact h3 x (List.mem_cons_of_mem _ hx) hm)
theorem markS_fine (n : Nat) : ∀ (ls : List (List Int)) (out out' : List Bool), markS n ls out = some out' → out.length = n → (∀ l ∈ ls, (∀ x ∈ l, 0 ≤ x ∧ x < n) ∧ l.Nodup) ∧ ∀ j : Nat, j < n → (out'.getD j false = true ↔ out.getD j false = true ∨ ∃ l ∈ ls, (j : Int) ∈ l)
  | [], out, out', h, _ => by
    cases h
    exact ⟨fun x hx => (List.not_mem_nil hx).elim, fun j _ => by simp⟩
  | l :: ls, out, out', h, hl => by
    unfold markS at h
    cases e : markL n [] l out with
    | none => rw [e] at h; cases h
    | some o2 =>
      rw [e] at h
      obtain ⟨a1, a2, _, a4⟩ := markL_fine n l [] out o2 e hl
      obtain ⟨b1, b2⟩ := markS_fine n ls o2 out' h (by rw [markL_len n l _ _ _ e]; exact hl)
      refine ⟨fun x hx => ?_, fun j hj => ?_⟩
      · rcases List.mem_cons.1 hx with rfl | hx
        · exact ⟨a1, a2⟩
        · exact b1 x hx
      · rw [b2 j hj, a4 j hj]
        constructor
        · rintro ((h | h) | ⟨q, h1, h2⟩)
          · exact .inl h
          · exact .inr ⟨l, List.mem_cons_self, h⟩
          · exact .inr ⟨q, List.mem_cons_of_mem _ h1, h2⟩
        · rintro (h | ⟨q, h1, h2⟩)
          · exact .inl (.inl h)
          · rcases List.mem_cons.1 h1 with rfl | h1
            · exact .inl (.inr h2)
            · exact .inr ⟨q, h1, h2⟩
theorem markS_mk (n : Nat) : ∀ (ls : List (List Int)) (out : List Bool), (∀ l ∈ ls, (∀ x ∈ l, 0 ≤ x ∧ x < n) ∧ l.Nodup) → ∃ out', markS n ls out = some out'
  | [], out, _ => ⟨out, rfl⟩
  | l :: ls, out, h => by
    obtain ⟨o2, h2⟩ := markL_mk n l [] out (h l List.mem_cons_self).1 (h l List.mem_cons_self).2 (fun x _ hx => List.not_mem_nil hx)
    obtain ⟨o3, h3⟩ := markS_mk n ls o2 (fun q hq => h q (List.mem_cons_of_mem _ hq))
    exact ⟨o3, by unfold markS; rw [h2]; exact h3⟩
theorem named_fine {m : Man} {nm : List Bool} (h : named m = some nm) : nm.length = m.refs.length ∧ (∀ l ∈ stacks m, (∀ x ∈ l, 0 ≤ x ∧ x < m.refs.length) ∧ l.Nodup) ∧ ∀ j : Nat, j < m.refs.length → (nm.getD j false = true ↔ ∃ l ∈ stacks m, (j : Int) ∈ l) := by
  have hl := markS_len _ _ _ _ h
  rw [List.length_replicate] at hl
  obtain ⟨h1, h2⟩ := markS_fine _ _ _ _ h (by rw [List.length_replicate])
  refine ⟨hl, h1, fun j hj => ?_⟩
  rw [h2 j hj]
  simp [List.getD_eq_getElem?_getD, List.getElem?_replicate, hj]
end Go.Proofs.YtaodgnladjafoaaGreatDoor.Mni
