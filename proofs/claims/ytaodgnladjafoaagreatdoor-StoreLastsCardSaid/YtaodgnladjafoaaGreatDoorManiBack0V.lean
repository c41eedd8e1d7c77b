/- Words that the proof uses. -/
import Derived.Test.YtaodgnladjafoaaGreatDoorManiDV
import Derived.Test.YtaodgnladjafoaaGreatDoorManiBV
set_option linter.unusedVariables false
set_option linter.unusedSimpArgs false
namespace Go.Proofs.YtaodgnladjafoaaGreatDoor.Mni
open Go.RowKit Go.Proofs.YtaodgnladjafoaaGreatDoorW.PrintWords Go.Proofs.YtaodgnladjafoaaGreatDoorW.PrintLast Go.Proofs.YtaodgnladjafoaaGreatDoorW.PrintMore Go.Proofs.YtaodgnladjafoaaGreatDoor.Md Go.Proofs.YtaodgnladjafoaaGreatDoor.QStoreLasts Go.Proofs.YtaodgnladjafoaaGreatDoor.CdM
open Go.Proofs.YtaodgnladjafoaaGreatDoor.Rdr (NumTo NumAt NoNumTo RefAt On Has refA)
structure Lim (m : Man) : Prop where
  r : ∀ r ∈ m.refs, 0 ≤ r.f0 ∧ r.f0 ≤ 2048 ∧ 0 ≤ r.f1 ∧ r.f1 ≤ 16384 ∧ 0 ≤ r.f2 ∧ r.f2 ≤ 4294967295
  rl : m.refs.length ≤ 64
  s : ∀ x ∈ m.stack, 0 ≤ x ∧ x ≤ 64
  sl : m.stack.length ≤ 8
  u : -1 ≤ m.upper ∧ m.upper ≤ 63
  n : ∀ l ∈ m.snaps, l.length ≤ 9 ∧ ∀ x ∈ l, 0 ≤ x ∧ x ≤ 64
  nl : m.snaps.length ≤ 16
theorem Lim.fits {m : Man} (h : Lim m) : Fits m :=
  ⟨fun r hr => by have := h.r r hr; omega, fun x hx => by have := h.s x hx; omega, h.u.1, by have := h.u.2; omega, fun l hl => ⟨(h.n l hl).1, fun x hx => by have := (h.n l hl).2 x hx; omega⟩, h.rl, h.sl, h.nl⟩
theorem lim_right {m : Man} {n : Int} (h : rightM m n = true) (hw : ∀ r ∈ m.refs, 0 ≤ r.f2 ∧ r.f2 ≤ 4294967295) : Lim m := by
  obtain ⟨h1, h2, h3, ⟨nm, h4, _⟩, out, h5⟩ := rightM_parts h
  unfold sizedB at h3
  simp only [Bool.and_eq_true, decide_eq_true_eq, Bool.not_eq_true'] at h3
  obtain ⟨⟨e1, e2, e3, e4⟩, e5⟩ := h3
  obtain ⟨_, f2, _⟩ := named_fine h4
  have hr := right_refs n m.refs _ _ h5
  have hup : m.upper ≤ 63 := by
    by_cases hu : m.upper = -1
    · omega
    · have := (f2 [m.upper] (by unfold stacks; rw [if_neg hu]; exact List.mem_cons_of_mem _ (List.mem_append_left _ List.mem_cons_self))).1 m.upper List.mem_cons_self
      omega
  refine ⟨fun r hr2 => ?_, e1, fun x hx => ?_, e2, ⟨e4, hup⟩, fun l hl => ⟨?_, fun x hx => ?_⟩, e3⟩
  · obtain ⟨g1, g2, g3⟩ := rightV_iff.1 (hr r hr2)
    have g4 := pages_tdiv g1
    have := hw r hr2
    omega
  · have := (f2 m.stack List.mem_cons_self).1 x hx
    omega
  · unfold anyLong at e5
    have := List.any_eq_false.1 e5 l hl
    simpa using this
  · have := (f2 l (by unfold stacks; exact List.mem_cons_of_mem _ (List.mem_append_right _ hl))).1 x hx
    omega
theorem items_lay {s : ByteArray} : ∀ (l : List Int) (p : Nat), On s p (numsS l) → (∀ x ∈ l, 0 ≤ x ∧ x ≤ 64) → itemsP s l.length p = some (l, p + (numsS l).size)
  | [], p, _, _ => rfl
  | x :: l, p, h, hb => by
    have hx := hb x List.mem_cons_self
    have h' : On s p (numS x.toNat ++ numsS l) := h
    obtain ⟨g1, g2⟩ := On.app.1 h'
    show ((numP s p 64).bind fun a => (itemsP s l.length a.2).bind fun b => some ((a.1 : Int) :: b.1, b.2)) = _
    rw [on_num g1 (by omega) (by omega), Option.bind_some, items_lay l _ g2 (fun y hy => hb y (List.mem_cons_of_mem _ hy)), Option.bind_some]
    show some (((x.toNat : Nat) : Int) :: l, p + (numS x.toNat).size + (numsS l).size) = some (x :: l, p + (numS x.toNat ++ numsS l).size)
    rw [show ((x.toNat : Nat) : Int) = x by omega, ByteArray.size_append, Nat.add_assoc]
theorem list_lay {s : ByteArray} (l : List Int) (p : Nat) (h : On s p (numsS [(l.length : Int)] ++ numsS l)) (hl : l.length ≤ 9) (hb : ∀ x ∈ l, 0 ≤ x ∧ x ≤ 64) : listP s p = some (l, p + (numsS [(l.length : Int)] ++ numsS l).size) := by
  rw [one_numS] at h ⊢
  obtain ⟨g1, g2⟩ := On.app.1 h
  unfold listP
  rw [on_num g1 (by omega) (by omega), Option.bind_some, items_lay l _ g2 hb, ByteArray.size_append, Nat.add_assoc]
theorem ref_lay {s : ByteArray} (r : Rf) (p : Nat) (h : On s p (refS r)) (hb : 0 ≤ r.f0 ∧ r.f0 ≤ 2048 ∧ 0 ≤ r.f1 ∧ r.f1 ≤ 16384 ∧ 0 ≤ r.f2 ∧ r.f2 ≤ 4294967295) : refP s p = some (r, p + (refS r).size) := by
  unfold refS at h ⊢
  obtain ⟨g12, g3⟩ := On.app.1 h
  obtain ⟨g1, g2⟩ := On.app.1 g12
  rw [ByteArray.size_append, ← Nat.add_assoc] at g3
  unfold refP
  rw [on_num g1 (by omega) (by omega), Option.bind_some, on_num g2 (by omega) (by omega), Option.bind_some, on_num g3 (by omega) (by omega), Option.bind_some, ByteArray.size_append, ByteArray.size_append]
  obtain ⟨a, b, c⟩ := r
  simp only at hb ⊢
  rw [show ((a.toNat : Nat) : Int) = a by omega, show ((b.toNat : Nat) : Int) = b by omega, show ((c.toNat : Nat) : Int) = c by omega]
  congr 2
  omega
theorem refs_lay {s : ByteArray} : ∀ (l : List Rf) (p : Nat), On s p (refsS l) → (∀ r ∈ l, 0 ≤ r.f0 ∧ r.f0 ≤ 2048 ∧ 0 ≤ r.f1 ∧ r.f1 ≤ 16384 ∧ 0 ≤ r.f2 ∧ r.f2 ≤ 4294967295) → refsIt s l.length p = some (l, p + (refsS l).size)
  | [], p, _, _ => rfl
  | x :: l, p, h, hb => by
    have h' : On s p (refS x ++ refsS l) := h
    obtain ⟨g1, g2⟩ := On.app.1 h'
    show ((refP s p).bind fun a => (refsIt s l.length a.2).bind fun b => some (a.1 :: b.1, b.2)) = _
    rw [ref_lay x p g1 (hb x List.mem_cons_self), Option.bind_some, refs_lay l _ g2 (fun y hy => hb y (List.mem_cons_of_mem _ hy)), Option.bind_some]
    show some (x :: l, p + (refS x).size + (refsS l).size) = some (x :: l, p + (refS x ++ refsS l).size)
    rw [ByteArray.size_append, Nat.add_assoc]
theorem snaps_lay {s : ByteArray} : ∀ (t : List (List Int)) (p : Nat), On s p (snapsS t) → (∀ l ∈ t, l.length ≤ 9 ∧ ∀ x ∈ l, 0 ≤ x ∧ x ≤ 64) → snapsIt s t.length p = some (t, p + (snapsS t).size)
  | [], p, _, _ => rfl
  | x :: t, p, h, hb => by
    have h' : On s p ((numsS [(x.length : Int)] ++ numsS x) ++ snapsS t) := h
    obtain ⟨g1, g2⟩ := On.app.1 h'
    have hx := hb x List.mem_cons_self
    show ((listP s p).bind fun a => (snapsIt s t.length a.2).bind fun b => some (a.1 :: b.1, b.2)) = _
    rw [list_lay x p g1 hx.1 hx.2, Option.bind_some, snaps_lay t _ g2 (fun y hy => hb y (List.mem_cons_of_mem _ hy)), Option.bind_some]
    show some (x :: t, p + (numsS [(x.length : Int)] ++ numsS x).size + (snapsS t).size) = some (x :: t, p + ((numsS [(x.length : Int)] ++ numsS x) ++ snapsS t).size)
    rw [ByteArray.size_append (b := snapsS t), Nat.add_assoc]
theorem two_numS (a b : Int) : numsS [a, b] = numS a.toNat ++ numS b.toNat := by
  show numS a.toNat ++ (numS b.toNat ++ (⟨#[]⟩ : ByteArray)) = _
  rw [append_empty]
theorem parts_lay {s : ByteArray} {m : Man} {p : Nat} (h : On s p (layM m)) (hl : Lim m) : partsP s p = some (m, p + (layM m).size) := by
  unfold layM midS at h ⊢
  rw [one_numS, two_numS] at h ⊢
  obtain ⟨h1, h5⟩ := On.app.1 h
  obtain ⟨h1, h2⟩ := On.app.1 h1
  obtain ⟨h0, h1⟩ := On.app.1 h1
  obtain ⟨h2, h3⟩ := On.app.1 h2
  obtain ⟨h3, h4⟩ := On.app.1 h3
  have hu := hl.u
  rw [Int.toNat_natCast] at h4 h5 ⊢
  simp only [ByteArray.size_append (b := refsS m.refs)] at h2 h3 h4 h5
  have r1 := refs_lay m.refs _ h1 hl.r
  have r2 := list_lay m.stack _ h2 (by have := hl.sl; omega) hl.s
  obtain ⟨z1, hz1⟩ : ∃ z, numsS [(m.stack.length : Int)] ++ numsS m.stack = z := ⟨_, rfl⟩
  rw [hz1] at h3 h4 h5 r2 ⊢
  obtain ⟨up, hup⟩ : ∃ up : Nat, (m.upper + 1).toNat = up := ⟨_, rfl⟩
  rw [hup] at h3 h4 h5 ⊢
  have r3 := on_num (most := 64) h3 (by omega) (by omega)
  have r4 := on_num (most := 16) h4 (by have := hl.nl; omega) (by have := hl.nl; omega)
  unfold partsP refsP
  rw [on_num h0 (by have := hl.rl; omega) (by have := hl.rl; omega), Option.bind_some, r1, Option.bind_some, Nat.add_assoc p, r2, Option.bind_some, r3, Option.bind_some, r4, Option.bind_some]
  have r5 := snaps_lay m.snaps _ h5 hl.n
  have e5 : p + ((numS m.refs.length).size + (refsS m.refs).size) + z1.size + (numS up).size + (numS m.snaps.length).size = p + (numS m.refs.length ++ refsS m.refs ++ (z1 ++ (numS up ++ numS m.snaps.length))).size := by
    simp only [ByteArray.size_append]
    omega
  show ((snapsIt s m.snaps.length (p + ((numS m.refs.length).size + (refsS m.refs).size) + z1.size + (numS up).size + (numS m.snaps.length).size)).bind fun f => some ((⟨m.refs, m.stack, (up : Int) - 1, f.1⟩ : Man), f.2)) = _
  rw [e5, r5, Option.bind_some, ByteArray.size_append (b := snapsS m.snaps), Nat.add_assoc, show (up : Int) - 1 = m.upper by omega]
end Go.Proofs.YtaodgnladjafoaaGreatDoor.Mni
