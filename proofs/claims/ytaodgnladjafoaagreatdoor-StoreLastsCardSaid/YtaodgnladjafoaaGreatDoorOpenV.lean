/- Words that the proof uses. -/
import Derived.Test.YtaodgnladjafoaaGreatDoorWordsV
import Derived.Deep.Slices
import Derived.ChangeArms
import Derived.WideShapes
import Derived.ProofKit
namespace Go.Proofs.YtaodgnladjafoaaGreatDoor.Opn
open Go.RowKit Go.ChangeShapes Go.WideShapes Go.Deep Go.Proofs.YtaodgnladjafoaaGreatDoorW.PrintWords
section
variable {H : Type} {enc : TypeId × Value → H} {P : Program} {w : World} {base : Nat} {spare : Nat → Bool} {held : Bool}
theorem chosen {α : Type} {p : Nat → α → Prop} : ∀ (n : Nat), (∀ i, i < n → ∃ x, p i x) → ∃ xs : List α, xs.length = n ∧ ∀ i x, xs[i]? = some x → p i x
  | 0, _ => ⟨[], rfl, fun i x h => by simp at h⟩
  | n + 1, h => by
    obtain ⟨xs, hl, hx⟩ := chosen n (fun i hi => h i (by omega))
    obtain ⟨y, hy⟩ := h n (by omega)
    refine ⟨xs ++ [y], by simp [hl], fun i x hi => ?_⟩
    rcases Nat.lt_or_ge i n with hlt | hge
    · rw [List.getElem?_append_left (by omega)] at hi
      exact hx i x hi
    · rw [List.getElem?_append_right (by omega), hl] at hi
      have hi0 : i = n := by
        rcases Nat.lt_or_ge n i with h' | h'
        · rw [List.getElem?_eq_none (by simp; omega)] at hi
          cases hi
        · omega
      subst hi0
      simp at hi
      subst hi
      exact hy
theorem open_CP {α : Type} (d : Kd α) (Pp : α → Prop) {t e : TypeId} {a : Option Addr} {len cap : Nat} {D : DataW H} {p : List MemPlace} (ht : P.underlying t = some (.slice e)) (hC : P.cellsOf e = d.sz)
    (hel : ∀ (n : Nat) (cs : List Value) (y : DataW H × List MemPlace), DataW.trod enc P w base spare held n e cs = some y → ∃ x, d.K w x cs ∧ Pp x)
    (h : DataW.Trod enc P w base spare held t (.slice a len cap) D p) : ∃ xs : List α, xs.length = len ∧ len ≤ cap ∧ d.C w a len xs ∧ ∀ x ∈ xs, Pp x := by
  obtain ⟨fuel, hf⟩ := h
  rcases open_slice ht hf with ⟨hcs, _⟩ | ⟨ad, l, c, m, n, Dd, Pl, hcs, _, hl, hm, hmm, _, hi⟩
  · simp [Value.cells] at hcs
    obtain ⟨rfl, rfl, rfl⟩ := hcs
    exact ⟨[], rfl, Nat.le_refl _, ⟨rfl, by omega, fun h0 => absurd h0 (by omega)⟩, fun x hx => by simp at hx⟩
  · simp [Value.cells] at hcs
    obtain ⟨rfl, rfl, rfl⟩ := hcs
    have hlm : len ≤ m := by rw [hmm]; split <;> omega
    obtain ⟨xs, hx, hp⟩ := chosen (p := fun i x => ∃ cs, cs.length = d.sz ∧ (d.K w x cs ∧ Pp x) ∧ ∀ j u, cs[j]? = some u → w.cell? (ad.add (i * d.sz + j)) = some u) len (fun i hil => by
      obtain ⟨cs, hc, htr⟩ := hi i (by omega)
      obtain ⟨x, hx⟩ := hel _ _ _ htr
      rw [hC] at hc
      obtain ⟨_, hlen, hat⟩ := World.cells?_some hc
      refine ⟨x, cs, hlen, hx, fun j u hj => ?_⟩
      have hjl : j < d.sz := by
        have := (List.getElem?_eq_some_iff.1 hj).1
        omega
      have hcell := hat j hjl
      rw [← Go.Deep.add_add, hcell, hj])
    refine ⟨xs, hx, hl, ⟨hx, by unfold maxLen at hm; omega, fun _ => ⟨ad, rfl, fun j x hj => ?_⟩⟩, fun x hxm => ?_⟩
    · obtain ⟨cs, h1, h2, h3⟩ := hp j x hj
      exact ⟨cs, h1, h2.1, h3⟩
    · obtain ⟨i, hi', he'⟩ := List.getElem_of_mem hxm
      obtain ⟨_, _, h2, _⟩ := hp i x (by rw [← he']; exact List.getElem?_eq_getElem hi')
      exact h2.2
end
end Go.Proofs.YtaodgnladjafoaaGreatDoor.Opn
