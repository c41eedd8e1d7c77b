/- ManiUses, the plain law: how many sectors a right manifest takes. -/
import Derived.Test.YtpijilfkmkdghaaDoorMani9
set_option linter.unusedVariables false
set_option linter.unusedSimpArgs false
namespace Go.Proofs.YtpijilfkmkdghaaDoor.Mni
open Go.RowKit Go.Proofs.YtpijilfkmkdghaaDoorW.PrintWords Go.Proofs.YtpijilfkmkdghaaDoorW.PrintLast Go.Proofs.YtpijilfkmkdghaaDoorW.PrintMore Go.Proofs.YtpijilfkmkdghaaDoor.Md Go.Proofs.YtpijilfkmkdghaaDoor.QManiBack
def sumP : List Rf → Nat
  | [] => 0
  | r :: l => (pagesV r.f1).toNat + sumP l
theorem count_set : ∀ (l : List Bool) (a : Nat), a < l.length → l.getD a false = false → (l.set a true).count true = l.count true + 1
  | [], a, h, _ => by simp at h
  | b :: l, 0, _, h => by
    have hb : b = false := by simpa using h
    subst hb
    simp
  | b :: l, a + 1, h, h2 => by
    have := count_set l a (by simpa using h) (by simpa using h2)
    rw [List.set_cons_succ, List.count_cons, List.count_cons, this]
    omega
theorem markP_count : ∀ (n a : Nat) (out out' : List Bool), markP n a out = some out' → a + n ≤ out.length → out'.count true = out.count true + n
  | 0, _, out, out', h, _ => by cases h; rfl
  | n + 1, a, out, out', h, hl => by
    unfold markP at h
    by_cases hb : out.getD a false = true
    · rw [if_pos hb] at h; cases h
    · rw [if_neg hb] at h
      rw [markP_count n (a + 1) _ _ h (by rw [List.length_set]; omega), count_set out a (by omega) (by simpa using hb)]
      omega
theorem markP_ext : ∀ (n a : Nat) (out out' r : List Bool), markP n a out = some out' → a + n ≤ out.length → markP n a (out ++ r) = some (out' ++ r)
  | 0, _, out, out', r, h, _ => by cases h; rfl
  | n + 1, a, out, out', r, h, hl => by
    unfold markP at h ⊢
    have e : (out ++ r).getD a false = out.getD a false := by
      rw [List.getD_eq_getElem?_getD, List.getD_eq_getElem?_getD, List.getElem?_append_left (by omega)]
    rw [e]
    by_cases hb : out.getD a false = true
    · rw [if_pos hb] at h; cases h
    · rw [if_neg hb] at h ⊢
      rw [List.set_append_left _ _ (by omega)]
      exact markP_ext n (a + 1) _ _ r h (by rw [List.length_set]; omega)
theorem rightV_more {x y n d : Int} (h : rightV x y n = true) (hd : 0 ≤ d) : rightV x y (n + d) = true := by
  rw [rightV_iff] at h ⊢
  omega
theorem markR_more (n : Int) (d : Nat) : ∀ (refs : List Rf) (out out' : List Bool), markR n refs out = some out' → (out.length : Int) = n → out'.count true = out.count true + sumP refs ∧ (out'.length : Int) = n ∧ markR (n + d) refs (out ++ List.replicate d false) = some (out' ++ List.replicate d false)
  | [], out, out', h, hl => by cases h; exact ⟨rfl, hl, rfl⟩
  | r :: refs, out, out', h, hl => by
    rw [markR_cons] at h
    by_cases hR : rightV r.f0 r.f1 n = true
    · rw [if_pos hR] at h
      obtain ⟨g1, g2, g3⟩ := rightV_iff.1 hR
      cases hm : markP (pagesV r.f1).toNat r.f0.toNat out with
      | none => rw [hm] at h; cases h
      | some o2 =>
        rw [hm, Option.bind_some] at h
        have hlen := markP_len _ _ _ _ hm
        obtain ⟨k1, k2, k3⟩ := markR_more n d refs o2 out' h (by omega)
        refine ⟨?_, k2, ?_⟩
        · rw [k1, markP_count _ _ _ _ hm (by omega)]
          show _ = _ + ((pagesV r.f1).toNat + sumP refs)
          omega
        · rw [markR_cons, if_pos (rightV_more hR (by omega)), markP_ext _ _ _ _ _ hm (by omega)]
          exact k3
    · rw [if_neg hR] at h; cases h
theorem start_more (n d : Nat) (h : 2 ≤ n) : start (n + d) = start n ++ List.replicate d false := by
  unfold start
  rw [← List.replicate_append_replicate, List.set_append_left _ _ (by simp; omega), List.set_append_left _ _ (by simp; omega)]
theorem start_count (n : Nat) (h : 2 ≤ n) : (start n).count true = 2 := by
  obtain ⟨k, rfl⟩ : ∃ k, n = 2 + k := ⟨n - 2, by omega⟩
  rw [start_more 2 k (by omega), List.count_append]
  have : (List.replicate k false).count true = 0 := by simp [List.count_replicate]
  rw [this]
  rfl
theorem rightM_parts {m : Man} {n : Int} (h : rightM m n = true) : 2 ≤ n ∧ n ≤ 2048 ∧ sizedB m = true ∧ (∃ nm, named m = some nm ∧ nm.contains false = false) ∧ ∃ out, marks m n = some out := by
  unfold rightM at h
  simp only [Bool.and_eq_true, decide_eq_true_eq, Option.isSome_iff_exists] at h
  obtain ⟨⟨h1, h2⟩, h3, ⟨nm, h4⟩, ⟨out, h5⟩, h6⟩ := h
  rw [h4] at h6
  exact ⟨h1, h2, h3, ⟨nm, h4, by simpa using h6⟩, out, h5⟩
theorem rightM_mk {m : Man} {n : Int} {nm out : List Bool} (h1 : 2 ≤ n) (h2 : n ≤ 2048) (h3 : sizedB m = true) (h4 : named m = some nm) (h6 : nm.contains false = false) (h5 : marks m n = some out) : rightM m n = true := by
  unfold rightM
  rw [h3, h4, h5, decide_eq_true ⟨h1, h2⟩]
  simp only [Option.isSome_some, Option.getD_some, h6]
  rfl
/-- on a greater disk -/
theorem uses_more {m : Man} {n : Int} (d : Nat) (h : rightM m n = true) (hd : n + d ≤ 2048) : ∃ out, marks m n = some out ∧ (out.length : Int) = n ∧ out.count true = 2 + sumP m.refs ∧ marks m (n + d) = some (out ++ List.replicate d false) ∧ rightM m (n + d) = true := by
  obtain ⟨h1, h2, h3, ⟨nm, h4, h6⟩, out, h5⟩ := rightM_parts h
  have hn2 : 2 ≤ n.toNat := by omega
  obtain ⟨k1, k2, k3⟩ := markR_more n d m.refs (start n.toNat) out h5 (by rw [start_len]; omega)
  rw [start_count _ hn2] at k1
  have e : marks m (n + d) = some (out ++ List.replicate d false) := by
    unfold marks
    rw [show (n + (d : Int)).toNat = n.toNat + d by omega, start_more _ _ hn2]
    exact k3
  exact ⟨out, h5, k2, k1, e, rightM_mk (by omega) hd h3 h4 h6 e⟩
theorem sumP_snoc (l : List Rf) (r : Rf) : sumP (l ++ [r]) = sumP l + (pagesV r.f1).toNat := by
  induction l with
  | nil => show (pagesV r.f1).toNat + 0 = 0 + (pagesV r.f1).toNat; omega
  | cons x l ih => show (pagesV x.f1).toNat + sumP (l ++ [r]) = (pagesV x.f1).toNat + sumP l + (pagesV r.f1).toNat; rw [ih]; omega
theorem right_refs (n : Int) : ∀ (refs : List Rf) (out out' : List Bool), markR n refs out = some out' → ∀ r ∈ refs, rightV r.f0 r.f1 n = true
  | [], _, _, _, r, hr => (List.not_mem_nil hr).elim
  | x :: refs, out, out', h, r, hr => by
    rw [markR_cons] at h
    by_cases hR : rightV x.f0 x.f1 n = true
    · rw [if_pos hR] at h
      cases hm : markP (pagesV x.f1).toNat x.f0.toNat out with
      | none => rw [hm] at h; cases h
      | some o2 =>
        rw [hm, Option.bind_some] at h
        rcases List.mem_cons.1 hr with rfl | hr
        · exact hR
        · exact right_refs n refs o2 out' h r hr
    · rw [if_neg hR] at h; cases h
theorem pages_tdiv {y : Int} (h : 0 < pagesV y) : (y + 63).tdiv 64 = pagesV y ∧ 1 ≤ y ∧ y ≤ 16384 := by
  unfold pagesV at h ⊢
  by_cases h1 : y < 1
  · rw [if_pos h1] at h; omega
  · rw [if_neg h1] at h ⊢
    by_cases h2 : y > 16384
    · rw [if_pos h2] at h; omega
    · rw [if_neg h2, Int.tdiv_eq_ediv_of_nonneg (by omega)]
      exact ⟨rfl, by omega, by omega⟩
theorem sumP_le : ∀ (l : List Rf), sumP l ≤ 256 * l.length
  | [] => Nat.zero_le _
  | r :: l => by
    have h1 := sumP_le l
    have h2 := pagesV_le r.f1
    show (pagesV r.f1).toNat + sumP l ≤ _
    rw [List.length_cons]
    omega
end Go.Proofs.YtpijilfkmkdghaaDoor.Mni
