/- Reader.Num at any bytes. -/
import Derived.Test.YtabhfopmblaohaaDoorCodeQ
import Derived.Test.YtabhfopmblaohaaDoorReaderAll
set_option linter.unusedVariables false
set_option linter.unusedSimpArgs false
namespace Go.Proofs.YtabhfopmblaohaaDoor.Rdr
open Go.RowKit Go.Proofs.YtabhfopmblaohaaDoorW.PrintWords Go.Proofs.YtabhfopmblaohaaDoorW.PrintLast Go.Proofs.YtabhfopmblaohaaDoorW.PrintMore Go.Proofs.YtabhfopmblaohaaDoor.CdM Go.Proofs.YtabhfopmblaohaaDoor.Md
open Go.Proofs.YtabhfopmblaohaaDoor.Err (Laid IsErr code_nil Chain at_some at_nil)
/-- a number up to most stands there -/
def NumTo (s : ByteArray) (p : Nat) (most : Int) (y : Nat) : Prop := y ≤ 4611686018427387904 ∧ (y : Int) ≤ most ∧ Stands s p y
theorem stands_one {s : ByteArray} {p x y : Nat} (hx : Stands s p x) (hy : Stands s p y) : x = y := by
  have key : ∀ {x y : Nat}, Stands s p x → Stands s p y → (num x).length ≤ (num y).length → x = y := by
    intro x y hx hy hl
    refine num_prefix x y ((num y).drop (num x).length) ?_
    have e : (num y).take (num x).length = num x := by
      apply List.ext_getElem
      · rw [List.length_take]; omega
      · intro j h1 h2
        rw [List.getElem_take]
        obtain ⟨_, g1⟩ := hx j h2
        obtain ⟨_, g2⟩ := hy j (by omega)
        rw [g1] at g2
        rw [List.getD_eq_getElem?_getD, List.getD_eq_getElem?_getD, List.getElem?_eq_getElem h2, List.getElem?_eq_getElem (by omega)] at g2
        simpa using g2.symm
    conv => rhs; rw [← List.take_append_drop (num x).length (num y), e]
  rcases Nat.le_total (num x).length (num y).length with h | h
  · exact key hx hy h
  · exact (key hy hx h).symm
/-- what Num answers at p: the number, the error, where the reader stands then -/
def NumAt (w : World) (s : ByteArray) (p : Nat) (most : Int) (n : Int) (e : Value) (q : Nat) : Prop :=
  (∃ y : Nat, NumTo s p most y ∧ n = (y : Int) ∧ e = .nilIface ∧ q = p + (num y).length) ∨ (NoNumTo s p most ∧ n = 0 ∧ (∃ T x, e = .iface T x ∧ IsErr w e 13) ∧ q = p)
theorem num_any (R : Nat) (s : ByteArray) (p : Nat) (most : Int) (w : World) (h : Hid (Has w R s p)) (hs : s.size ≤ 4611686018427387904) :
    Calls Tryd.prog 31 #[.pointer (some ⟨R, 0, none⟩), .int .i64 most] w fun ev w' => ∃ n e q, ev = .returned (.tuple #[.int .i64 n, e]) ∧ NumAt w' s p most n e q ∧ Mod (· = R) w w' ∧ Has w' R s q := by
  by_cases hex : ∃ y : Nat, NumTo s p most y
  · obtain ⟨y, hy⟩ := hex
    refine (num_c R s p y most w h (Lib.hid hy.2.2) hs hy.1 hy.2.1).mono ?_
    rintro e w' ⟨rfl, hm, hh⟩
    exact ⟨_, _, _, rfl, .inl ⟨y, hy, rfl, rfl, rfl⟩, hm, hh⟩
  · have hno : NoNumTo s p most := fun y h1 h2 h3 => hex ⟨y, h1, h2, h3⟩
    refine (num_no R s p most w h (Lib.hid hno) hs).mono ?_
    rintro e w' ⟨⟨T, x, rfl, hi⟩, hm, hh⟩
    exact ⟨_, _, _, rfl, .inr ⟨hno, rfl, ⟨T, x, rfl, hi⟩, rfl⟩, hm, hh⟩
theorem NumAt.on {w w' : World} {s : ByteArray} {p : Nat} {most n : Int} {e : Value} {q : Nat} (h : NumAt w s p most n e q) (hb : ∀ T x, e = .iface T x → IsErr w e 13 → IsErr w' e 13) : NumAt w' s p most n e q := by
  rcases h with h | ⟨h1, h2, ⟨T, x, h3, h4⟩, h5⟩
  · exact .inl h
  · exact .inr ⟨h1, h2, ⟨T, x, h3, hb T x h3 h4⟩, h5⟩
/-- an error goes through what a reader does -/
theorem isErr_has {w w' : World} {v : Value} {n : Int} {R : Nat} {s : ByteArray} {p : Nat} (h : IsErr w v n) (hh : Has w R s p) (k : Mod (· = R) w w') : IsErr w' v n :=
  isErr_mod h k (fun b cs hb (e : b = R) => by unfold Has at hh; rw [e, hh] at hb; simp at hb)
end Go.Proofs.YtabhfopmblaohaaDoor.Rdr
