/- A manifest in memory; whether its lists are of a size that may be. -/
import Derived.Test.YtpijilfkmkdghaaDoorMani0
import Derived.Test.YtpijilfkmkdghaaDoorCodeNum
set_option linter.unusedVariables false
set_option linter.unusedSimpArgs false
namespace Go.Proofs.YtpijilfkmkdghaaDoor.Mni
open Go.RowKit Go.Proofs.YtpijilfkmkdghaaDoorW.PrintWords Go.Proofs.YtpijilfkmkdghaaDoorW.PrintLast Go.Proofs.YtpijilfkmkdghaaDoorW.PrintMore Go.Proofs.YtpijilfkmkdghaaDoor.Md Go.Proofs.YtpijilfkmkdghaaDoor.QManiBack
abbrev Rf := S56
abbrev rk : Kd Rf := k56
abbrev lk : Kd (List Int) := Kd.slice 3 (Kd.int .i64)
structure Man where
  refs : List Rf
  stack : List Int
  upper : Int
  snaps : List (List Int)
/-- where its lists stand -/
structure Loc where
  p0 : Option Addr
  c0 : Nat
  p1 : Option Addr
  c1 : Nat
  p3 : Option Addr
  c3 : Nat
def Loc.a (o : Loc) (m : Man) : Array Value := #[.slice o.p0 m.refs.length o.c0, .slice o.p1 m.stack.length o.c1, .int .i64 m.upper, .slice o.p3 m.snaps.length o.c3]
structure At (w : World) (o : Loc) (m : Man) : Prop where
  r : Kd.C rk w o.p0 m.refs.length m.refs
  rc : m.refs.length ≤ o.c0
  s : Kd.C (Kd.int .i64) w o.p1 m.stack.length m.stack
  sc : m.stack.length ≤ o.c1
  n : Kd.C lk w o.p3 m.snaps.length m.snaps
  nc : m.snaps.length ≤ o.c3
theorem At.on {w w' : World} {o : Loc} {m : Man} (h : At w o m) (k : Below w.heap.size w w') : At w' o m :=
  ⟨Kd.C_below h.r k, h.rc, Kd.C_below h.s k, h.sc, Kd.C_below h.n k, h.nc⟩
theorem foot {α : Type} {d : Kd α} {w : World} {A : Option Addr} {n : Nat} {xs : List α} (h : d.C w A n xs) (hd : ∀ (w1 : World) (H : Array Obj), d.C { w1 with heap := H } A n xs → ∀ w2 : World, w2.heap = H → d.C w2 A n xs) : Kd.F d w (fun _ => True) A n xs := by
  intro w2 h2
  have hs : w.heap.size ≤ w2.heap.size := by
    rcases Nat.eq_zero_or_pos w.heap.size with e | e
    · omega
    · have z := h2 (w.heap.size - 1) trivial (by omega)
      rw [Array.getElem?_eq_getElem (show w.heap.size - 1 < w.heap.size by omega)] at z
      have := (Array.getElem?_eq_some_iff.1 z).1
      omega
  refine hd w w2.heap (Kd.C_below h ⟨rfl, rfl, rfl, hs, fun k hk => h2 k trivial hk⟩) w2 rfl
theorem foot_int {w : World} {A : Option Addr} {n : Nat} {xs : List Int} (h : (Kd.int .i64).C w A n xs) : Kd.F (Kd.int .i64) w (fun _ => True) A n xs :=
  foot h (fun w1 H h1 w2 e => by subst e; exact h1)
theorem foot_lk {w : World} {A : Option Addr} {n : Nat} {xs : List (List Int)} (h : lk.C w A n xs) : Kd.F lk w (fun _ => True) A n xs :=
  foot h (fun w1 H h1 w2 e => by subst e; exact h1)
def stacks (m : Man) : List (List Int) := m.stack :: ((if m.upper = -1 then [] else [[m.upper]]) ++ m.snaps)
theorem stacks_f (m : Man) (h : m.snaps.length ≤ 1000000) : mani_Manifest_stacks.f m.refs m.stack m.upper m.snaps = some (stacks m) := by
  unfold mani_Manifest_stacks.f stacks
  simp only [Option.bind_some, List.length_singleton]
  by_cases e : m.upper = -1
  · rw [if_pos e, if_pos e, if_pos (by omega)]
    rfl
  · rw [if_neg e, if_neg e, if_pos (by omega), List.length_append, List.length_singleton, List.length_singleton, if_pos (by omega)]
    rfl
theorem stacks_c (o : Loc) (m : Man) (w : World) (h : Hid (At w o m)) (hm : m.snaps.length ≤ 1000000) :
    Calls Tryd.prog 32 #[.agg (o.a m)] w fun e w' => ∃ A c, e = .returned (.slice A (stacks m).length c) ∧ (stacks m).length ≤ c ∧ Kd.C lk w' A (stacks m).length (stacks m) ∧ Below w.heap.size w w' := by
  refine (mani_Manifest_stacks.calls o.p0 o.c0 m.refs (fun _ => True) o.p1 o.c1 m.stack m.upper (fun _ => True) o.p3 o.c3 m.snaps (stacks m) w h.out.r h.out.rc (Kd.V_mk h.out.sc (foot_int h.out.s)) (Kd.V_mk h.out.nc (foot_lk h.out.n)) (stacks_f m hm)).mono ?_
  rintro e w' ⟨v, rfl, hN, hd⟩
  obtain ⟨A, c, rfl⟩ := Kd.N_slice hN
  obtain ⟨h1, h2, h3⟩ := Kd.N_reads' hN
  exact ⟨A, c, rfl, by simpa [← h1] using h2, h3, hd⟩
end Go.Proofs.YtpijilfkmkdghaaDoor.Mni
