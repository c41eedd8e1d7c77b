/- What a manifest is, swept (plain). -/
import Derived.Test.YtpijilfkmkdghaaDoorManiUses0
set_option linter.unusedVariables false
set_option linter.unusedSimpArgs false
namespace Go.Proofs.YtpijilfkmkdghaaDoor.Mni
open Go.RowKit Go.Proofs.YtpijilfkmkdghaaDoorW.PrintWords Go.Proofs.YtpijilfkmkdghaaDoorW.PrintLast Go.Proofs.YtpijilfkmkdghaaDoorW.PrintMore Go.Proofs.YtpijilfkmkdghaaDoor.Md Go.Proofs.YtpijilfkmkdghaaDoor.QManiBack
def keepR : List Bool → List Rf → List Rf
  | b :: bs, r :: rs => if b = true then r :: keepR bs rs else keepR bs rs
  | _, _ => []
def cnt (nm : List Bool) (x : Int) : Int := (((nm.take x.toNat).count true : Nat) : Int)
def sweptM (m : Man) (nm : List Bool) : Man := ⟨keepR nm m.refs, m.stack.map (cnt nm), if m.upper = -1 then -1 else cnt nm m.upper, m.snaps.map (fun l => l.map (cnt nm))⟩
theorem keepR_append : ∀ (a : List Bool) (p : List Rf) (b : List Bool) (q : List Rf), a.length = p.length → keepR (a ++ b) (p ++ q) = keepR a p ++ keepR b q
  | [], [], b, q, _ => rfl
  | [], _ :: _, _, _, h => by simp at h
  | _ :: _, [], _, _, h => by simp at h
  | x :: a, y :: p, b, q, h => by
    have ih := keepR_append a p b q (by simpa using h)
    show (if x = true then y :: keepR (a ++ b) (p ++ q) else keepR (a ++ b) (p ++ q)) = (if x = true then y :: keepR a p else keepR a p) ++ keepR b q
    rw [ih]
    split <;> rfl
theorem keepR_len : ∀ (a : List Bool) (p : List Rf), a.length = p.length → (keepR a p).length = a.count true
  | [], [], _ => rfl
  | [], _ :: _, h => by simp at h
  | _ :: _, [], h => by simp at h
  | x :: a, y :: p, h => by
    have ih := keepR_len a p (by simpa using h)
    show (if x = true then y :: keepR a p else keepR a p).length = _
    rw [List.count_cons]
    cases x with
    | true => rw [if_pos rfl, List.length_cons, ih]; rfl
    | false => rw [if_neg (by decide), ih]; rfl
theorem keepR_sub : ∀ (a : List Bool) (p : List Rf), (keepR a p).Sublist p
  | [], p => List.nil_sublist _
  | _ :: _, [] => List.nil_sublist _
  | x :: a, y :: p => by
    have ih := keepR_sub a p
    show (if x = true then y :: keepR a p else keepR a p).Sublist _
    split
    · exact ih.cons_cons y
    · exact ih.cons y
theorem keepR_snoc (nm : List Bool) (refs : List Rf) (h : nm.length = refs.length) (k : Nat) (hk : k < refs.length) : keepR (nm.take (k + 1)) (refs.take (k + 1)) = keepR (nm.take k) (refs.take k) ++ (if nm[k]'(by omega) = true then [refs[k]] else []) := by
  rw [← List.take_append_getElem hk, ← List.take_append_getElem (show k < nm.length by omega), keepR_append _ _ _ _ (by rw [List.length_take, List.length_take]; omega)]
  congr 1
/-- what a list's marks tell -/
theorem markL_fine (n : Nat) : ∀ (l met : List Int) (out out' : List Bool), markL n met l out = some out' → out.length = n → (∀ x ∈ l, 0 ≤ x ∧ x < n) ∧ l.Nodup ∧ (∀ x ∈ l, x ∉ met) ∧ ∀ j : Nat, j < n → (out'.getD j false = true ↔ out.getD j false = true ∨ (j : Int) ∈ l)
  | [], met, out, out', h, _ => by
    cases h
    exact ⟨fun x hx => (List.not_mem_nil hx).elim, List.nodup_nil, fun x hx => (List.not_mem_nil hx).elim, fun j _ => by simp⟩
  | k :: l, met, out, out', h, hl => by
    unfold markL at h
    by_cases hc : k < 0 ∨ (n : Int) ≤ k ∨ k ∈ met
    · rw [if_pos hc] at h; cases h
    · rw [if_neg hc] at h
      obtain ⟨g1, g2, g3, g4⟩ := markL_fine n l (k :: met) _ out' h (by rw [List.length_set]; exact hl)
      have hk : 0 ≤ k ∧ k < n := by omega
      refine ⟨fun x hx => ?_, List.nodup_cons.2 ⟨fun hk2 => g3 k hk2 List.mem_cons_self, g2⟩, fun x hx => ?_, fun j hj => ?_⟩
      · rcases List.mem_cons.1 hx with rfl | hx
        · exact hk
        · exact g1 x hx
      · rcases List.mem_cons.1 hx with rfl | hx
        · exact fun h => hc (.inr (.inr h))
        · exact fun h => g3 x hx (List.mem_cons_of_mem _ h)
      · rw [g4 j hj]
        have e : (out.set k.toNat true).getD j false = true ↔ out.getD j false = true ∨ (j : Int) = k := by
          simp only [List.getD_eq_getElem?_getD, List.getElem?_set]
          by_cases hjk : k.toNat = j
          · rw [if_pos hjk, if_pos (by omega)]
            simp
            right; omega
          · rw [if_neg hjk]
            constructor
            · exact .inl
            · rintro (h | h)
              · exact h
              · omega
        rw [e, List.mem_cons]
        constructor
        · rintro ((h | h) | h)
          · exact .inl h
          · exact .inr (.inl h)
          · exact .inr (.inr h)
        · rintro (h | h | h)
          · exact .inl (.inl h)
          · exact .inl (.inr h)
          · exact .inr h
theorem markL_mk (n : Nat) : ∀ (l met : List Int) (out : List Bool), (∀ x ∈ l, 0 ≤ x ∧ x < n) → l.Nodup → (∀ x ∈ l, x ∉ met) → ∃ out', markL n met l out = some out'
  | [], met, out, _, _, _ => ⟨out, rfl⟩
  | k :: l, met, out, h1, h2, h3 => by
    have hk := h1 k List.mem_cons_self
    have hd := List.nodup_cons.1 h2
    unfold markL
    rw [if_neg (by
      rintro (h | h | h)
      · omega
      · omega
      · exact h3 k List.mem_cons_self h)]
    exact markL_mk n l (k :: met) _ (fun x hx => h1 x (List.mem_cons_of_mem _ hx)) hd.2 (fun x hx hm => by
      rcases List.mem_cons.1 hm with rfl | hm
      · exact hd.1 hx
      · exact h3 x (List.mem_cons_of_mem _ hx) hm)
theorem markS_fine (n : Nat) : ∀ (ls : List (List Int)) (out out' : List Bool), markS n ls out = some out' → out.length = n → (∀ l ∈ ls, (∀ x ∈ l, 0 ≤ x ∧ x < n) ∧ l.Nodup) ∧ ∀ j : Nat, j < n → (out'.getD j false = true ↔ out.getD j false = true ∨ ∃ l ∈ ls, (j : Int) ∈ l)
  | [], out, out', h, _ => by
    cases h
    exact ⟨fun x hx => (List.not_mem_nil hx).elim, fun j _ => by simp⟩
  | l :: ls, out, out', h, hl => by
    unfold markS at h
    cases e : markL n [] l out with
    | none => rw [e] at h; cases h
    | some o2 =>
      rw [e] at h
      obtain ⟨a1, a2, _, a4⟩ := markL_fine n l [] out o2 e hl
      obtain ⟨b1, b2⟩ := markS_fine n ls o2 out' h (by rw [markL_len n l _ _ _ e]; exact hl)
      refine ⟨fun x hx => ?_, fun j hj => ?_⟩
      · rcases List.mem_cons.1 hx with rfl | hx
        · exact ⟨a1, a2⟩
        · exact b1 x hx
      · rw [b2 j hj, a4 j hj]
        constructor
        · rintro ((h | h) | ⟨q, h1, h2⟩)
          · exact .inl h
          · exact .inr ⟨l, List.mem_cons_self, h⟩
          · exact .inr ⟨q, List.mem_cons_of_mem _ h1, h2⟩
        · rintro (h | ⟨q, h1, h2⟩)
          · exact .inl (.inl h)
          · rcases List.mem_cons.1 h1 with rfl | h1
            · exact .inl (.inr h2)
            · exact .inr ⟨q, h1, h2⟩
theorem markS_mk (n : Nat) : ∀ (ls : List (List Int)) (out : List Bool), (∀ l ∈ ls, (∀ x ∈ l, 0 ≤ x ∧ x < n) ∧ l.Nodup) → ∃ out', markS n ls out = some out'
  | [], out, _ => ⟨out, rfl⟩
  | l :: ls, out, h => by
    obtain ⟨o2, h2⟩ := markL_mk n l [] out (h l List.mem_cons_self).1 (h l List.mem_cons_self).2 (fun x _ hx => List.not_mem_nil hx)
    obtain ⟨o3, h3⟩ := markS_mk n ls o2 (fun q hq => h q (List.mem_cons_of_mem _ hq))
    exact ⟨o3, by unfold markS; rw [h2]; exact h3⟩
theorem named_fine {m : Man} {nm : List Bool} (h : named m = some nm) : nm.length = m.refs.length ∧ (∀ l ∈ stacks m, (∀ x ∈ l, 0 ≤ x ∧ x < m.refs.length) ∧ l.Nodup) ∧ ∀ j : Nat, j < m.refs.length → (nm.getD j false = true ↔ ∃ l ∈ stacks m, (j : Int) ∈ l) := by
  have hl := markS_len _ _ _ _ h
  rw [List.length_replicate] at hl
  obtain ⟨h1, h2⟩ := markS_fine _ _ _ _ h (by rw [List.length_replicate])
  refine ⟨hl, h1, fun j hj => ?_⟩
  rw [h2 j hj]
  simp [List.getD_eq_getElem?_getD, List.getElem?_replicate, hj]
theorem cnt_nat (nm : List Bool) (k : Nat) : cnt nm (k : Int) = (((nm.take k).count true : Nat) : Int) := by
  unfold cnt
  rw [Int.toNat_natCast]
end Go.Proofs.YtpijilfkmkdghaaDoor.Mni
