/- Arguments of a row opened: a slice of elements of any kind reads as a list of them. No program in sight. -/
import Derived.Test.YtpijilfkmkdghaaDoorWWords
import Derived.Deep.Slices
import Derived.ChangeArms
import Derived.WideShapes
import Derived.ProofKit
namespace Go.Proofs.YtpijilfkmkdghaaDoor.Opn
open Go.RowKit Go.ChangeShapes Go.WideShapes Go.Deep Go.Proofs.YtpijilfkmkdghaaDoorW.PrintWords
section
variable {H : Type} {enc : TypeId × Value → H} {P : Program} {w : World} {base : Nat} {spare : Nat → Bool} {held : Bool}
theorem chosen {α : Type} {p : Nat → α → Prop} : ∀ (n : Nat), (∀ i, i < n → ∃ x, p i x) → ∃ xs : List α, xs.length = n ∧ ∀ i x, xs[i]? = some x → p i x
  | 0, _ => ⟨[], rfl, fun i x h => by simp at h⟩
  | n + 1, h => by
    obtain ⟨xs, hl, hx⟩ := chosen n (fun i hi => h i (by omega))
    obtain ⟨y, hy⟩ := h n (by omega)
    refine ⟨xs ++ [y], by simp [hl], fun i x hi => ?_⟩
    rcases Nat.lt_or_ge i n with hlt | hge
    · rw [List.getElem?_append_left (by omega)] at hi
      exact hx i x hi
    · rw [List.getElem?_append_right (by omega), hl] at hi
      have hi0 : i = n := by
        rcases Nat.lt_or_ge n i with h' | h'
        · rw [List.getElem?_eq_none (by simp; omega)] at hi
          cases hi
        · omega
      subst hi0
      simp at hi
      subst hi
      exact hy
theorem open_C {α : Type} (d : Kd α) {t e : TypeId} {a : Option Addr} {len cap : Nat} {D : DataW H} {p : List MemPlace} (ht : P.underlying t = some (.slice e)) (hC : P.cellsOf e = d.sz)
    (hel : ∀ (n : Nat) (cs : List Value) (y : DataW H × List MemPlace), DataW.trod enc P w base spare held n e cs = some y → ∃ x, d.K w x cs)
    (h : DataW.Trod enc P w base spare held t (.slice a len cap) D p) : ∃ xs : List α, xs.length = len ∧ len ≤ cap ∧ d.C w a len xs := by
  obtain ⟨fuel, hf⟩ := h
  rcases open_slice ht hf with ⟨hcs, _⟩ | ⟨ad, l, c, m, n, Dd, Pl, hcs, _, hl, hm, hmm, _, hi⟩
  · simp [Value.cells] at hcs
    obtain ⟨rfl, rfl, rfl⟩ := hcs
    exact ⟨[], rfl, Nat.le_refl _, rfl, by omega, fun h0 => absurd h0 (by omega)⟩
  · simp [Value.cells] at hcs
    obtain ⟨rfl, rfl, rfl⟩ := hcs
    have hlm : len ≤ m := by rw [hmm]; split <;> omega
    obtain ⟨xs, hx, hp⟩ := chosen (p := fun i x => ∃ cs, cs.length = d.sz ∧ d.K w x cs ∧ ∀ j u, cs[j]? = some u → w.cell? (ad.add (i * d.sz + j)) = some u) len (fun i hil => by
      obtain ⟨cs, hc, htr⟩ := hi i (by omega)
      obtain ⟨x, hx⟩ := hel _ _ _ htr
      rw [hC] at hc
      obtain ⟨_, hlen, hat⟩ := World.cells?_some hc
      refine ⟨x, cs, hlen, hx, fun j u hj => ?_⟩
      have hjl : j < d.sz := by
        have := (List.getElem?_eq_some_iff.1 hj).1
        omega
      have hcell := hat j hjl
      rw [← Go.Deep.add_add, hcell, hj])
    refine ⟨xs, hx, hl, hx, by unfold maxLen at hm; omega, fun _ => ⟨ad, rfl, fun j x hj => ?_⟩⟩
    obtain ⟨cs, h1, h2, h3⟩ := hp j x hj
    exact ⟨cs, h1, h2, h3⟩
theorem open_CP {α : Type} (d : Kd α) (Pp : α → Prop) {t e : TypeId} {a : Option Addr} {len cap : Nat} {D : DataW H} {p : List MemPlace} (ht : P.underlying t = some (.slice e)) (hC : P.cellsOf e = d.sz)
    (hel : ∀ (n : Nat) (cs : List Value) (y : DataW H × List MemPlace), DataW.trod enc P w base spare held n e cs = some y → ∃ x, d.K w x cs ∧ Pp x)
    (h : DataW.Trod enc P w base spare held t (.slice a len cap) D p) : ∃ xs : List α, xs.length = len ∧ len ≤ cap ∧ d.C w a len xs ∧ ∀ x ∈ xs, Pp x := by
  obtain ⟨fuel, hf⟩ := h
  rcases open_slice ht hf with ⟨hcs, _⟩ | ⟨ad, l, c, m, n, Dd, Pl, hcs, _, hl, hm, hmm, _, hi⟩
  · simp [Value.cells] at hcs
    obtain ⟨rfl, rfl, rfl⟩ := hcs
    exact ⟨[], rfl, Nat.le_refl _, ⟨rfl, by omega, fun h0 => absurd h0 (by omega)⟩, fun x hx => by simp at hx⟩
  · simp [Value.cells] at hcs
    obtain ⟨rfl, rfl, rfl⟩ := hcs
    have hlm : len ≤ m := by rw [hmm]; split <;> omega
    obtain ⟨xs, hx, hp⟩ := chosen (p := fun i x => ∃ cs, cs.length = d.sz ∧ (d.K w x cs ∧ Pp x) ∧ ∀ j u, cs[j]? = some u → w.cell? (ad.add (i * d.sz + j)) = some u) len (fun i hil => by
      obtain ⟨cs, hc, htr⟩ := hi i (by omega)
      obtain ⟨x, hx⟩ := hel _ _ _ htr
      rw [hC] at hc
      obtain ⟨_, hlen, hat⟩ := World.cells?_some hc
      refine ⟨x, cs, hlen, hx, fun j u hj => ?_⟩
      have hjl : j < d.sz := by
        have := (List.getElem?_eq_some_iff.1 hj).1
        omega
      have hcell := hat j hjl
      rw [← Go.Deep.add_add, hcell, hj])
    refine ⟨xs, hx, hl, ⟨hx, by unfold maxLen at hm; omega, fun _ => ⟨ad, rfl, fun j x hj => ?_⟩⟩, fun x hxm => ?_⟩
    · obtain ⟨cs, h1, h2, h3⟩ := hp j x hj
      exact ⟨cs, h1, h2.1, h3⟩
    · obtain ⟨i, hi', he'⟩ := List.getElem_of_mem hxm
      obtain ⟨_, _, h2, _⟩ := hp i x (by rw [← he']; exact List.getElem?_eq_getElem hi')
      exact h2.2
theorem open_numsB {k : IntKind} {t e : TypeId} {a : Option Addr} {len cap : Nat} {D : DataW H} {p : List MemPlace} (ht : P.underlying t = some (.slice e)) (he : P.underlying e = some (.int k)) (hC : P.cellsOf e = 1)
    (h : DataW.Trod enc P w base spare held t (.slice a len cap) D p) : ∃ xs : List Int, xs.length = len ∧ len ≤ cap ∧ Kd.C (Kd.int k) w a len xs ∧ ∀ x ∈ xs, (Lit.int k x).wf = true :=
  open_CP (Kd.int k) (fun x => (Lit.int k x).wf = true) ht hC (fun n cs y hy => by
    obtain ⟨b, rfl, _, hb⟩ := DataW.trod_int he hy
    exact ⟨b, rfl, hb⟩) h
theorem all_mem {P : Program} {e : TypeId} {n : Nat} {d : DataW H} : ∀ (ds : List (DataW H)), d ∈ ds → n ∈ d.weights P e → n ∈ DataW.weightsAll P e ds
  | [], h, _ => by simp at h
  | d0 :: r, h, hn => by
    simp only [DataW.weightsAll, List.mem_append]
    rcases List.mem_cons.1 h with rfl | h
    · exact .inl hn
    · exact .inr (all_mem r h hn)
theorem open_bools {t e : TypeId} {a : Option Addr} {len cap : Nat} {D : DataW H} {p : List MemPlace} (ht : P.underlying t = some (.slice e)) (he : P.underlying e = some .bool) (hC : P.cellsOf e = 1)
    (h : DataW.Trod enc P w base spare held t (.slice a len cap) D p) : ∃ xs : List Bool, xs.length = len ∧ len ≤ cap ∧ Kd.C Kd.bool w a len xs :=
  open_C Kd.bool ht hC (fun n cs y hy => by
    obtain ⟨b, rfl, _⟩ := DataW.trod_bool he hy
    exact ⟨b, rfl⟩) h
theorem open_nums {k : IntKind} {t e : TypeId} {a : Option Addr} {len cap : Nat} {D : DataW H} {p : List MemPlace} (ht : P.underlying t = some (.slice e)) (he : P.underlying e = some (.int k)) (hC : P.cellsOf e = 1)
    (h : DataW.Trod enc P w base spare held t (.slice a len cap) D p) : ∃ xs : List Int, xs.length = len ∧ len ≤ cap ∧ Kd.C (Kd.int k) w a len xs :=
  open_C (Kd.int k) ht hC (fun n cs y hy => by
    obtain ⟨b, rfl, _⟩ := DataW.trod_int he hy
    exact ⟨b, rfl⟩) h
theorem open_texts {t e : TypeId} {a : Option Addr} {len cap : Nat} {D : DataW H} {p : List MemPlace} (ht : P.underlying t = some (.slice e)) (he : P.underlying e = some .string) (hC : P.cellsOf e = 1)
    (h : DataW.Trod enc P w base spare held t (.slice a len cap) D p) : ∃ xs : List ByteArray, xs.length = len ∧ len ≤ cap ∧ Kd.C Kd.string w a len xs :=
  open_C Kd.string ht hC (fun n cs y hy => by
    obtain ⟨b, rfl, _⟩ := DataW.trod_string he hy
    exact ⟨b, rfl⟩) h
/-- .. and of texts the sizes are bounded as the whole argument's weights are -/
theorem open_textsS {t e : TypeId} {a : Option Addr} {len cap : Nat} {D : DataW H} {p : List MemPlace} (ht : P.underlying t = some (.slice e)) (he : P.underlying e = some .string) (hC : P.cellsOf e = 1)
    (h : DataW.Trod enc P w base spare held t (.slice a len cap) D p) : ∃ xs : List ByteArray, xs.length = len ∧ len ≤ cap ∧ Kd.C Kd.string w a len xs ∧ ∀ x ∈ xs, x.size ∈ D.weights P t := by
  obtain ⟨fuel, hf⟩ := h
  rcases open_slice ht hf with ⟨hcs, _⟩ | ⟨ad, l, c, m, n, Dd, Pl, hcs, _, hl, hm, hmm, hD, hi⟩
  · simp [Value.cells] at hcs
    obtain ⟨rfl, rfl, rfl⟩ := hcs
    exact ⟨[], rfl, Nat.le_refl _, ⟨rfl, by omega, fun h0 => absurd h0 (by omega)⟩, fun x hx => by simp at hx⟩
  · simp [Value.cells] at hcs
    obtain ⟨rfl, rfl, rfl⟩ := hcs
    have hlm : len ≤ m := by rw [hmm]; split <;> omega
    obtain ⟨xs, hx, hp⟩ := chosen (p := fun i x => w.cell? (ad.add (i * P.cellsOf e)) = some (.string x) ∧ Dd i = .lit (.string x.data.toList)) len (fun i hil => by
      obtain ⟨cs, hc, htr⟩ := hi i (by omega)
      obtain ⟨x, rfl, hx, _⟩ := DataW.trod_string he htr
      obtain ⟨_, hlen, hat⟩ := World.cells?_some hc
      have := hat 0 (by rw [hC]; decide)
      refine ⟨x, ?_, (congrArg Prod.fst hx)⟩
      simpa [Go.Addr.add] using this)
    refine ⟨xs, hx, hl, ⟨hx, by unfold maxLen at hm; omega, fun _ => ⟨ad, rfl, fun j x hj => ?_⟩⟩, fun x hxm => ?_⟩
    · obtain ⟨h1, _⟩ := hp j x hj
      refine ⟨[.string x], rfl, rfl, fun i u hu => ?_⟩
      cases i with
      | zero =>
        simp at hu
        subst hu
        rw [hC] at h1
        simpa [Go.Addr.add, Kd.string, Kd.scalar] using h1
      | succ i => simp at hu
    · obtain ⟨i, hi', he'⟩ := List.getElem_of_mem hxm
      obtain ⟨_, h2⟩ := hp i x (by rw [← he']; exact List.getElem?_eq_getElem hi')
      have hmem : DataW.lit (H := H) (.string x.data.toList) ∈ (List.range len).map Dd := List.mem_map.2 ⟨i, List.mem_range.2 (by omega), h2⟩
      have hDf : D = .slice ((List.range len).map Dd) ((List.range (m - len)).map fun j => Dd (len + j)) := congrArg Prod.fst hD
      rw [hDf]
      simp only [DataW.weights, ht, List.mem_cons, List.mem_append]
      refine Or.inr (Or.inl (all_mem _ hmem ?_))
      simp [DataW.weights]
end
end Go.Proofs.YtpijilfkmkdghaaDoor.Opn
