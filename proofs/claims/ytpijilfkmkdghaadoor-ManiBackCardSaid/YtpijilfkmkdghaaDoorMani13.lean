/- A manifest's parts, parsed (plain). -/
import Derived.Test.YtpijilfkmkdghaaDoorMani12
set_option linter.unusedVariables false
set_option linter.unusedSimpArgs false
namespace Go.Proofs.YtpijilfkmkdghaaDoor.Rdr
open Go.RowKit Go.Proofs.YtpijilfkmkdghaaDoorW.PrintWords Go.Proofs.YtpijilfkmkdghaaDoorW.PrintLast Go.Proofs.YtpijilfkmkdghaaDoorW.PrintMore Go.Proofs.YtpijilfkmkdghaaDoor.CdM Go.Proofs.YtpijilfkmkdghaaDoor.Md
theorem stands_le {s : ByteArray} {q y : Nat} (h : Stands s q y) : q + (num y).length ≤ s.size := by
  have hp := num_pos y
  obtain ⟨h1, _⟩ := h ((num y).length - 1) (by omega)
  omega
/-- a text stands at a place of another -/
def On (s : ByteArray) (p : Nat) (t : ByteArray) : Prop := ∃ r, s.data.toList.drop p = t.data.toList ++ r
theorem size_list (t : ByteArray) : t.data.toList.length = t.size := by simp
theorem On.app {s : ByteArray} {p : Nat} {a b : ByteArray} : On s p (a ++ b) ↔ On s p a ∧ On s (p + a.size) b := by
  unfold On
  rw [ByteArray.data_append, Array.toList_append]
  constructor
  · rintro ⟨r, h⟩
    refine ⟨⟨b.data.toList ++ r, by rw [h, List.append_assoc]⟩, r, ?_⟩
    rw [← List.drop_drop, h, ← size_list a, List.append_assoc, List.drop_left]
  · rintro ⟨⟨r, h⟩, r2, h2⟩
    rw [← List.drop_drop, h, ← size_list a, List.drop_left] at h2
    exact ⟨r2, by rw [h, h2, List.append_assoc]⟩
theorem On.le {s : ByteArray} {p : Nat} {t : ByteArray} (h : On s p t) (ht : 1 ≤ t.size) : p + t.size ≤ s.size := by
  obtain ⟨r, h⟩ := h
  have := congrArg List.length h
  rw [List.length_drop, List.length_append, size_list, size_list] at this
  omega
theorem On.eq {s : ByteArray} {p : Nat} {a b : ByteArray} (h1 : On s p a) (h2 : On s p b) (hs : a.size = b.size) : a = b := by
  obtain ⟨r, h1⟩ := h1
  obtain ⟨r2, h2⟩ := h2
  rw [h1] at h2
  exact ByteArray.ext (Array.toList_inj.1 (List.append_inj h2 (by simpa using hs)).1)
theorem On.of_stands {s : ByteArray} {p x : Nat} (h : Stands s p x) : On s p (numS x) := by
  refine ⟨(s.data.toList.drop p).drop (num x).length, ?_⟩
  rw [digs_u8]
  have hl := stands_le h
  have e : (s.data.toList.drop p).take (num x).length = (num x).map UInt8.ofNat := by
    apply List.ext_getElem
    · simp; omega
    · intro j h1 h2
      have hj : j < (num x).length := by simpa using h2
      obtain ⟨hq, hv⟩ := h j hj
      rw [List.getElem_take, List.getElem_drop, List.getElem_map]
      have e1 : s.data.toList[p + j]'(by rw [size_list]; exact hq) = s[p + j]'hq := by rw [Array.getElem_toList]; rfl
      rw [e1]
      have hv2 : (s[p + j]'hq).toNat = (num x)[j]'hj := by
        rw [hv, List.getD_eq_getElem?_getD, List.getElem?_eq_getElem hj]; rfl
      have hb := num_byte x ((num x)[j]'hj) (List.getElem_mem hj)
      rw [← UInt8.toNat_inj, hv2, UInt8.toNat_ofNat']
      omega
  rw [← e, List.take_append_drop]
theorem On.stands {s : ByteArray} {p x : Nat} (h : On s p (numS x)) : Stands s p x := by
  have hle := On.le h (by rw [numS_size]; exact num_pos x)
  obtain ⟨r, h⟩ := h
  have e : s = (⟨(s.data.toList.take p).toArray⟩ : ByteArray) ++ numS x ++ ⟨r.toArray⟩ := by
    apply ByteArray.ext
    apply Array.toList_inj.1
    rw [ByteArray.data_append, ByteArray.data_append, Array.toList_append, Array.toList_append]
    show _ = s.data.toList.take p ++ (numS x).data.toList ++ r
    rw [List.append_assoc, ← h, List.take_append_drop]
  have hs := Rdr.stands_mid (⟨(s.data.toList.take p).toArray⟩ : ByteArray) ⟨r.toArray⟩ x
  rw [← e] at hs
  have ep : (⟨(s.data.toList.take p).toArray⟩ : ByteArray).size = p := by
    show (s.data.toList.take p).toArray.size = p
    rw [List.size_toArray, List.length_take, size_list]; omega
  rw [ep] at hs
  exact hs
end Go.Proofs.YtpijilfkmkdghaaDoor.Rdr
namespace Go.Proofs.YtpijilfkmkdghaaDoor.Mni
open Go.RowKit Go.Proofs.YtpijilfkmkdghaaDoorW.PrintWords Go.Proofs.YtpijilfkmkdghaaDoorW.PrintLast Go.Proofs.YtpijilfkmkdghaaDoorW.PrintMore Go.Proofs.YtpijilfkmkdghaaDoor.Md Go.Proofs.YtpijilfkmkdghaaDoor.QManiBack Go.Proofs.YtpijilfkmkdghaaDoor.CdM
open Go.Proofs.YtpijilfkmkdghaaDoor.Err (Laid IsErr code_nil code_c Chain at_some at_nil)
open Go.Proofs.YtpijilfkmkdghaaDoor.Rdr (NumTo NumAt NoNumTo RefAt On Has refA)
open Classical in
noncomputable def numP (s : ByteArray) (p : Nat) (most : Int) : Option (Nat × Nat) := if h : ∃ y : Nat, NumTo s p most y then some (Classical.choose h, p + (num (Classical.choose h)).length) else none
theorem numP_some {s : ByteArray} {p y : Nat} {most : Int} (h : NumTo s p most y) : numP s p most = some (y, p + (num y).length) := by
  unfold numP
  have hex : ∃ y : Nat, NumTo s p most y := ⟨y, h⟩
  rw [dif_pos hex]
  have e := Rdr.stands_one (Classical.choose_spec hex).2.2 h.2.2
  rw [e]
theorem numP_none {s : ByteArray} {p : Nat} {most : Int} (h : NoNumTo s p most) : numP s p most = none := by
  unfold numP
  rw [dif_neg (fun hex => by obtain ⟨y, h1, h2, h3⟩ := hex; exact h y h1 h2 h3)]
theorem numP_of {s : ByteArray} {p y q : Nat} {most : Int} (h : numP s p most = some (y, q)) : NumTo s p most y ∧ q = p + (num y).length := by
  unfold numP at h
  by_cases hex : ∃ y : Nat, NumTo s p most y
  · rw [dif_pos hex] at h
    injection h with h
    injection h with h1 h2
    have hs := Classical.choose_spec hex
    rw [h1] at hs h2
    exact ⟨hs, h2.symm⟩
  · rw [dif_neg hex] at h; cases h
/-- what Num answers, told by the parser -/
theorem numAt_P {w : World} {s : ByteArray} {p q : Nat} {most n : Int} {e : Value} (h : NumAt w s p most n e q) : (∃ y : Nat, numP s p most = some (y, q) ∧ n = (y : Int) ∧ e = .nilIface ∧ (y : Int) ≤ most) ∨ (numP s p most = none ∧ n = 0 ∧ ∃ T x, e = .iface T x ∧ IsErr w (.iface T x) 13) := by
  rcases h with ⟨y, hy, rfl, rfl, rfl⟩ | ⟨hno, rfl, ⟨T, x, rfl, hi⟩, rfl⟩
  · exact .inl ⟨y, numP_some hy, rfl, rfl, hy.2.1⟩
  · exact .inr ⟨numP_none hno, rfl, T, x, rfl, hi⟩
noncomputable def refP (s : ByteArray) (p : Nat) : Option (Rf × Nat) := (numP s p 2048).bind fun a => (numP s a.2 16384).bind fun b => (numP s b.2 4294967295).bind fun c => some (⟨(a.1 : Int), (b.1 : Int), (c.1 : Int)⟩, c.2)
/-- what blob.Read answers, told by the parser -/
theorem refAt_P {w : World} {s : ByteArray} {p R : Nat} {v e : Value} (h : RefAt w s p v e) (hq : ∃ q, Has w R s q ∧ ∀ x y z : Nat, NumTo s p 2048 x → NumTo s (p + (num x).length) 16384 y → NumTo s (p + (num x).length + (num y).length) 4294967295 z → q = p + (num x).length + (num y).length + (num z).length) :
    (∃ r q, refP s p = some (r, q) ∧ v = .agg (ra r) ∧ e = .nilIface ∧ Has w R s q) ∨ (refP s p = none ∧ v = .agg (ra ⟨0, 0, 0⟩) ∧ (∃ T x, e = .iface T x ∧ IsErr w (.iface T x) 13) ∧ ∃ q, Has w R s q) := by
  obtain ⟨q, hh, hq⟩ := hq
  rcases h with ⟨x, y, z, h1, h2, h3, rfl, rfl⟩ | ⟨hno, rfl, T, u, rfl, hi⟩
  · refine .inl ⟨⟨x, y, z⟩, q, ?_, rfl, rfl, hh⟩
    unfold refP
    rw [numP_some h1, Option.bind_some, numP_some h2, Option.bind_some, numP_some h3, Option.bind_some, hq x y z h1 h2 h3]
  · refine .inr ⟨?_, rfl, ⟨T, u, rfl, hi⟩, q, hh⟩
    unfold refP
    cases e1 : numP s p 2048 with
    | none => rfl
    | some a =>
      obtain ⟨g1, g1q⟩ := numP_of (y := a.1) (q := a.2) e1
      rw [Option.bind_some]
      cases e2 : numP s a.2 16384 with
      | none => rfl
      | some b =>
        obtain ⟨g2, g2q⟩ := numP_of (y := b.1) (q := b.2) e2
        rw [Option.bind_some]
        cases e3 : numP s b.2 4294967295 with
        | none => rfl
        | some c =>
          obtain ⟨g3, _⟩ := numP_of (y := c.1) (q := c.2) e3
          rw [g2q] at g3
          rw [g1q] at g2 g3
          exact absurd g3 (hno _ _ _ g1 g2)
noncomputable def itemsP (s : ByteArray) : Nat → Nat → Option (List Int × Nat)
  | 0, p => some ([], p)
  | n + 1, p => (numP s p 64).bind fun a => (itemsP s n a.2).bind fun b => some ((a.1 : Int) :: b.1, b.2)
noncomputable def listP (s : ByteArray) (p : Nat) : Option (List Int × Nat) := (numP s p 9).bind fun a => itemsP s a.1 a.2
noncomputable def refsIt (s : ByteArray) : Nat → Nat → Option (List Rf × Nat)
  | 0, p => some ([], p)
  | n + 1, p => (refP s p).bind fun a => (refsIt s n a.2).bind fun b => some (a.1 :: b.1, b.2)
noncomputable def refsP (s : ByteArray) (p : Nat) : Option (List Rf × Nat) := (numP s p 64).bind fun a => refsIt s a.1 a.2
noncomputable def snapsIt (s : ByteArray) : Nat → Nat → Option (List (List Int) × Nat)
  | 0, p => some ([], p)
  | n + 1, p => (listP s p).bind fun a => (snapsIt s n a.2).bind fun b => some (a.1 :: b.1, b.2)
noncomputable def partsP (s : ByteArray) (p : Nat) : Option (Man × Nat) :=
  (refsP s p).bind fun a => (listP s a.2).bind fun b => (numP s b.2 64).bind fun c => (numP s c.2 16).bind fun d => (snapsIt s d.1 d.2).bind fun f => some (⟨a.1, b.1, (c.1 : Int) - 1, f.1⟩, f.2)
/-! what is parsed is spelled -/
theorem num_on {s : ByteArray} {p y q : Nat} {most : Int} (h : numP s p most = some (y, q)) : On s p (numS y) ∧ q = p + (numS y).size ∧ y ≤ 4611686018427387904 ∧ (y : Int) ≤ most := by
  obtain ⟨h1, h2⟩ := numP_of h
  exact ⟨On.of_stands h1.2.2, by rw [h2, numS_size], h1.1, h1.2.1⟩
theorem on_num {s : ByteArray} {p y : Nat} {most : Int} (h : On s p (numS y)) (h1 : y ≤ 4611686018427387904) (h2 : (y : Int) ≤ most) : numP s p most = some (y, p + (numS y).size) := by
  rw [numP_some (y := y) ⟨h1, h2, h.stands⟩, numS_size]
theorem one_numS (y : Nat) : numsS [(y : Int)] = numS y := by
  show numS ((y : Int).toNat) ++ (⟨#[]⟩ : ByteArray) = _
  rw [append_empty, Int.toNat_natCast]
theorem on_empty (s : ByteArray) (p : Nat) : On s p ⟨#[]⟩ := ⟨s.data.toList.drop p, rfl⟩
theorem ref_on {s : ByteArray} {p q : Nat} {r : Rf} (h : refP s p = some (r, q)) : On s p (refS r) ∧ q = p + (refS r).size ∧ (0 ≤ r.f0 ∧ r.f0 ≤ 4611686018427387904 ∧ 0 ≤ r.f1 ∧ r.f1 ≤ 4611686018427387904 ∧ 0 ≤ r.f2 ∧ r.f2 ≤ 4294967295) := by
  unfold refP at h
  cases e1 : numP s p 2048 with
  | none => rw [e1] at h; cases h
  | some a =>
    rw [e1, Option.bind_some] at h
    cases e2 : numP s a.2 16384 with
    | none => rw [e2] at h; cases h
    | some b =>
      rw [e2, Option.bind_some] at h
      cases e3 : numP s b.2 4294967295 with
      | none => rw [e3] at h; cases h
      | some c =>
        rw [e3, Option.bind_some] at h
        injection h with h
        injection h with h4 h5
        obtain ⟨a1, a2, a3, a4⟩ := num_on (y := a.1) (q := a.2) e1
        obtain ⟨b1, b2, b3, b4⟩ := num_on (y := b.1) (q := b.2) e2
        obtain ⟨c1, c2, c3, c4⟩ := num_on (y := c.1) (q := c.2) e3
        rw [a2] at b1 b2
        rw [b2] at c1 c2
        subst h4
        have e : refS ⟨(a.1 : Int), (b.1 : Int), (c.1 : Int)⟩ = numS a.1 ++ numS b.1 ++ numS c.1 := by
          unfold refS
          simp only [Int.toNat_natCast]
        rw [e]
        refine ⟨On.app.2 ⟨On.app.2 ⟨a1, b1⟩, by rw [ByteArray.size_append, ← Nat.add_assoc]; exact c1⟩, by rw [← h5, c2, ByteArray.size_append, ByteArray.size_append]; omega, ?_⟩
        show 0 ≤ (a.1 : Int) ∧ (a.1 : Int) ≤ 4611686018427387904 ∧ 0 ≤ (b.1 : Int) ∧ (b.1 : Int) ≤ 4611686018427387904 ∧ 0 ≤ (c.1 : Int) ∧ (c.1 : Int) ≤ 4294967295
        omega
theorem items_on {s : ByteArray} : ∀ (n p : Nat) {l : List Int} {q : Nat}, itemsP s n p = some (l, q) → On s p (numsS l) ∧ q = p + (numsS l).size ∧ l.length = n ∧ ∀ x ∈ l, 0 ≤ x ∧ x ≤ 64
  | 0, p, l, q, h => by
    injection h with h
    injection h with h1 h2
    subst h1
    exact ⟨on_empty s p, h2.symm, rfl, fun x hx => (List.not_mem_nil hx).elim⟩
  | n + 1, p, l, q, h => by
    unfold itemsP at h
    cases e1 : numP s p 64 with
    | none => rw [e1] at h; cases h
    | some a =>
      rw [e1, Option.bind_some] at h
      cases e2 : itemsP s n a.2 with
      | none => rw [e2] at h; cases h
      | some b =>
        rw [e2, Option.bind_some] at h
        injection h with h
        injection h with h4 h5
        obtain ⟨a1, a2, a3, a4⟩ := num_on (y := a.1) (q := a.2) e1
        obtain ⟨b1, b2, b3, b4⟩ := items_on n a.2 (l := b.1) (q := b.2) e2
        subst h4
        have e : numsS ((a.1 : Int) :: b.1) = numS a.1 ++ numsS b.1 := by
          show numS ((a.1 : Int).toNat) ++ numsS b.1 = _
          rw [Int.toNat_natCast]
        rw [e]
        refine ⟨On.app.2 ⟨a1, by rw [← a2]; exact b1⟩, by rw [← h5, b2, a2, ByteArray.size_append]; omega, by rw [List.length_cons, b3], fun x hx => ?_⟩
        rcases List.mem_cons.1 hx with rfl | hx
        · omega
        · exact b4 x hx
theorem list_on {s : ByteArray} {p q : Nat} {l : List Int} (h : listP s p = some (l, q)) : On s p (numsS [(l.length : Int)] ++ numsS l) ∧ q = p + (numsS [(l.length : Int)] ++ numsS l).size ∧ l.length ≤ 9 ∧ ∀ x ∈ l, 0 ≤ x ∧ x ≤ 64 := by
  unfold listP at h
  cases e1 : numP s p 9 with
  | none => rw [e1] at h; cases h
  | some a =>
    rw [e1, Option.bind_some] at h
    obtain ⟨a1, a2, a3, a4⟩ := num_on (y := a.1) (q := a.2) e1
    obtain ⟨b1, b2, b3, b4⟩ := items_on a.1 a.2 h
    rw [b3, one_numS]
    exact ⟨On.app.2 ⟨a1, by rw [← a2]; exact b1⟩, by rw [b2, a2, ByteArray.size_append]; omega, by omega, b4⟩
theorem refs_on {s : ByteArray} : ∀ (n p : Nat) {l : List Rf} {q : Nat}, refsIt s n p = some (l, q) → On s p (refsS l) ∧ q = p + (refsS l).size ∧ l.length = n ∧ ∀ r ∈ l, 0 ≤ r.f0 ∧ r.f0 ≤ 4611686018427387904 ∧ 0 ≤ r.f1 ∧ r.f1 ≤ 4611686018427387904 ∧ 0 ≤ r.f2 ∧ r.f2 ≤ 4294967295
  | 0, p, l, q, h => by
    injection h with h
    injection h with h1 h2
    subst h1
    exact ⟨on_empty s p, h2.symm, rfl, fun x hx => (List.not_mem_nil hx).elim⟩
  | n + 1, p, l, q, h => by
    unfold refsIt at h
    cases e1 : refP s p with
    | none => rw [e1] at h; cases h
    | some a =>
      rw [e1, Option.bind_some] at h
      cases e2 : refsIt s n a.2 with
      | none => rw [e2] at h; cases h
      | some b =>
        rw [e2, Option.bind_some] at h
        injection h with h
        injection h with h4 h5
        obtain ⟨a1, a2, a3⟩ := ref_on (r := a.1) (q := a.2) e1
        obtain ⟨b1, b2, b3, b4⟩ := refs_on n a.2 (l := b.1) (q := b.2) e2
        subst h4
        refine ⟨On.app.2 ⟨a1, by rw [← a2]; exact b1⟩, by rw [← h5, b2, a2]; show _ = p + (refS a.1 ++ refsS b.1).size; rw [ByteArray.size_append]; omega, by rw [List.length_cons, b3], fun x hx => ?_⟩
        rcases List.mem_cons.1 hx with rfl | hx
        · exact a3
        · exact b4 x hx
theorem snaps_on {s : ByteArray} : ∀ (n p : Nat) {l : List (List Int)} {q : Nat}, snapsIt s n p = some (l, q) → On s p (snapsS l) ∧ q = p + (snapsS l).size ∧ l.length = n ∧ ∀ r ∈ l, r.length ≤ 9 ∧ ∀ x ∈ r, 0 ≤ x ∧ x ≤ 4611686018427387904
  | 0, p, l, q, h => by
    injection h with h
    injection h with h1 h2
    subst h1
    exact ⟨on_empty s p, h2.symm, rfl, fun x hx => (List.not_mem_nil hx).elim⟩
  | n + 1, p, l, q, h => by
    unfold snapsIt at h
    cases e1 : listP s p with
    | none => rw [e1] at h; cases h
    | some a =>
      rw [e1, Option.bind_some] at h
      cases e2 : snapsIt s n a.2 with
      | none => rw [e2] at h; cases h
      | some b =>
        rw [e2, Option.bind_some] at h
        injection h with h
        injection h with h4 h5
        obtain ⟨a1, a2, a3, a4⟩ := list_on (l := a.1) (q := a.2) e1
        obtain ⟨b1, b2, b3, b4⟩ := snaps_on n a.2 (l := b.1) (q := b.2) e2
        subst h4
        refine ⟨On.app.2 ⟨a1, by rw [← a2]; exact b1⟩, by rw [← h5, b2, a2]; show _ = p + ((numsS [(a.1.length : Int)] ++ numsS a.1) ++ snapsS b.1).size; rw [ByteArray.size_append (a := numsS [(a.1.length : Int)] ++ numsS a.1)]; omega, by rw [List.length_cons, b3], fun x hx => ?_⟩
        rcases List.mem_cons.1 hx with rfl | hx
        · exact ⟨a3, fun y hy => by have := a4 y hy; omega⟩
        · exact b4 x hx
theorem parts_on {s : ByteArray} {p q : Nat} {m : Man} (h : partsP s p = some (m, q)) : On s p (layM m) ∧ q = p + (layM m).size ∧ (m.stack.length ≤ 8 → Fits m) ∧ m.refs.length ≤ 64 ∧ m.stack.length ≤ 9 ∧ m.snaps.length ≤ 16 := by
  unfold partsP at h
  cases e1 : refsP s p with
  | none => rw [e1] at h; cases h
  | some a =>
    rw [e1, Option.bind_some] at h
    cases e2 : listP s a.2 with
    | none => rw [e2] at h; cases h
    | some b =>
      rw [e2, Option.bind_some] at h
      cases e3 : numP s b.2 64 with
      | none => rw [e3] at h; cases h
      | some c =>
        rw [e3, Option.bind_some] at h
        cases e4 : numP s c.2 16 with
        | none => rw [e4] at h; cases h
        | some d =>
          rw [e4, Option.bind_some] at h
          cases e5 : snapsIt s d.1 d.2 with
          | none => rw [e5] at h; cases h
          | some f =>
            rw [e5, Option.bind_some] at h
            injection h with h
            injection h with h4 h5
            unfold refsP at e1
            cases e0 : numP s p 64 with
            | none => rw [e0] at e1; cases e1
            | some z =>
              rw [e0, Option.bind_some] at e1
              obtain ⟨z1, z2, z3, z4⟩ := num_on (y := z.1) (q := z.2) e0
              obtain ⟨a1, a2, a3, a4⟩ := refs_on z.1 z.2 (l := a.1) (q := a.2) e1
              obtain ⟨b1, b2, b3, b4⟩ := list_on (l := b.1) (q := b.2) e2
              obtain ⟨c1, c2, c3, c4⟩ := num_on (y := c.1) (q := c.2) e3
              obtain ⟨d1, d2, d3, d4⟩ := num_on (y := d.1) (q := d.2) e4
              obtain ⟨f1, f2, f3, f4⟩ := snaps_on d.1 d.2 (l := f.1) (q := f.2) e5
              subst h4
              have eT : layM ⟨a.1, b.1, (c.1 : Int) - 1, f.1⟩ = numS z.1 ++ refsS a.1 ++ ((numsS [(b.1.length : Int)] ++ numsS b.1) ++ (numS c.1 ++ numS d.1)) ++ snapsS f.1 := by
                unfold layM midS
                show numsS [(a.1.length : Int)] ++ refsS a.1 ++ (numsS [(b.1.length : Int)] ++ numsS b.1 ++ (numS ((c.1 : Int) - 1 + 1).toNat ++ (numS ((f.1.length : Int)).toNat ++ (⟨#[]⟩ : ByteArray)))) ++ snapsS f.1 = _
                rw [a3, one_numS, f3, append_empty, show ((c.1 : Int) - 1 + 1).toNat = c.1 by omega, Int.toNat_natCast]
              have hsz : (numS z.1 ++ refsS a.1 ++ ((numsS [(b.1.length : Int)] ++ numsS b.1) ++ (numS c.1 ++ numS d.1)) ++ snapsS f.1).size = (numS z.1).size + (refsS a.1).size + ((numsS [(b.1.length : Int)] ++ numsS b.1).size + ((numS c.1).size + (numS d.1).size)) + (snapsS f.1).size := by
                rw [ByteArray.size_append, ByteArray.size_append, ByteArray.size_append, ByteArray.size_append, ByteArray.size_append (a := numS c.1)]
              rw [eT]
              refine ⟨?_, by rw [hsz, ← h5]; omega, fun h8 => ⟨a4, fun x hx => by have := b4 x hx; omega, by show -1 ≤ (c.1 : Int) - 1; omega, by show (c.1 : Int) - 1 ≤ 1000000; omega, f4, by show a.1.length ≤ 64; omega, h8, by show f.1.length ≤ 16; omega⟩, by show a.1.length ≤ 64; omega, b3, by show f.1.length ≤ 16; omega⟩
              refine On.app.2 ⟨On.app.2 ⟨On.app.2 ⟨z1, by rw [← z2]; exact a1⟩, On.app.2 ⟨?_, On.app.2 ⟨?_, ?_⟩⟩⟩, ?_⟩
              · rw [ByteArray.size_append]
                have : p + ((numS z.1).size + (refsS a.1).size) = a.2 := by omega
                rw [this]; exact b1
              · rw [ByteArray.size_append]
                have : p + ((numS z.1).size + (refsS a.1).size) + (numsS [(b.1.length : Int)] ++ numsS b.1).size = b.2 := by omega
                rw [this]; exact c1
              · rw [ByteArray.size_append]
                have : p + ((numS z.1).size + (refsS a.1).size) + (numsS [(b.1.length : Int)] ++ numsS b.1).size + (numS c.1).size = c.2 := by omega
                rw [this]; exact d1
              · rw [ByteArray.size_append, ByteArray.size_append, ByteArray.size_append (a := numsS [(b.1.length : Int)] ++ numsS b.1), ByteArray.size_append (a := numS c.1)]
                have : p + ((numS z.1).size + (refsS a.1).size + ((numsS [(b.1.length : Int)] ++ numsS b.1).size + ((numS c.1).size + (numS d.1).size))) = d.2 := by omega
                rw [this]; exact f1
end Go.Proofs.YtpijilfkmkdghaaDoor.Mni
