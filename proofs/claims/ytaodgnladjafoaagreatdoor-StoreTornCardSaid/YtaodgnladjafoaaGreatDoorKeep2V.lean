/- Words that the proof uses. -/
import Derived.Test.YtaodgnladjafoaaGreatDoorKeep1V
set_option linter.unusedVariables false
set_option linter.unusedSimpArgs false
namespace Go.Proofs.YtaodgnladjafoaaGreatDoor.Sto
open Go.RowKit Go.Proofs.YtaodgnladjafoaaGreatDoorW.PrintWords Go.Proofs.YtaodgnladjafoaaGreatDoorW.PrintLast Go.Proofs.YtaodgnladjafoaaGreatDoorW.PrintMore Go.Proofs.YtaodgnladjafoaaGreatDoor.Md Go.Proofs.YtaodgnladjafoaaGreatDoor.Mni Go.Proofs.YtaodgnladjafoaaGreatDoor.QStoreLasts
open Go.Proofs.YtaodgnladjafoaaGreatDoor.Dk (Dsk IsD Ft mayN rd stl bit Pg)
open Go.Proofs.YtaodgnladjafoaaGreatDoor.Slt (Sl switched flushed bestOf slotOf pick)
open Go.Proofs.YtaodgnladjafoaaGreatDoor.Err (Laid IsErr code_nil code_c Chain at_some at_nil)
variable {N : Nat} {s : St} {rs : List Rf} {ts : List ByteArray} {pt : List Rf} {fs : List ByteArray}
theorem G.no (h : G N s rs ts pt fs) {a n : Nat} (hN : a + n ≤ N) (hf : ∀ j, a ≤ j → j < a + n → (Sto.used (withM rs) s)[j]? = some false) (t : ByteArray) (h1 : 1 ≤ t.size) (h2 : t.size ≤ 16384) (hp : (t.size + 63) / 64 = n) : ∀ x ∈ s.put, sameR x ⟨(a : Int), (t.size : Int), AdM.sum t⟩ = false := fun x hx => by
  refine sameR_no.2 (fun e => ?_)
  have q : pagesV (t.size : Int) = (((t.size + 63) / 64 : Nat) : Int) := Blb.pages_of t h1 h2
  have hc : cov x (a : Int) := by
    rw [e]
    refine ⟨Int.le_refl _, ?_⟩
    show (a : Int) < (a : Int) + pagesV (t.size : Int)
    rw [q]
    omega
  exact (h.free hN hf a (by omega) (by omega)).2 x (List.mem_cons_of_mem _ (List.mem_append_right _ (by rw [← h.put]; exact hx))) hc
theorem put_g (Z R M H : Nat) (v p : Value) (o : Mni.Loc) (t : ByteArray) (n a : Nat) (w : World) (h : Hid (IsS w ⟨Z, R, M, H, v, p⟩ o (withM rs) s)) (hG : Hid (G N s rs ts pt fs)) (h1 : 1 ≤ t.size) (h2 : t.size ≤ 16384) (hn : (t.size + 63) / 64 = n) (hf : SpM.find (Sto.used (withM rs) s) (n : Int) (Sto.used (withM rs) s).length 0 = ((a : Int), true)) (haN : a + n ≤ N) (haf : ∀ j, a ≤ j → j < a + n → (Sto.used (withM rs) s)[j]? = some false) (hdn : s.d.down = false) (hb0 : -1 ≤ s.d.budget) (hb1 : s.d.budget < 9223372036854775808) (hl : s.d.soft.length + n ≤ 9000) (hpl : pt.length ≤ 1000000) :
    Calls Tryz.prog 11 #[.pointer (some ⟨Z, 0, none⟩), .string t] w fun e w' => ((s.d.budget = -1 ∨ (n : Int) ≤ s.d.budget) ∧ e = .returned (.tuple #[.agg (ra ⟨(a : Int), (t.size : Int), AdM.sum t⟩), .nilIface]) ∧ ∃ v' p', IsS w' ⟨Z, R, M, H, v', p'⟩ o (withM rs) (putB s (a : Int) t n) ∧ G N (putB s (a : Int) t n) rs ts (pt ++ [⟨(a : Int), (t.size : Int), AdM.sum t⟩]) (fs ++ [t]) ∧ Stp w ⟨Z, R, M, H, v, p⟩ w' ⟨Z, R, M, H, v', p'⟩) ∨
      (0 ≤ s.d.budget ∧ s.d.budget < (n : Int) ∧ (∃ T u, e = .returned (.tuple #[.agg (ra zr), .iface T u]) ∧ IsErr w' (.iface T u) 10) ∧ ∃ v', IsS w' ⟨Z, R, M, H, v', p⟩ o (withM rs) (noB s (a : Int) t) ∧ G N (noB s (a : Int) t) rs ts pt fs ∧ Stp w ⟨Z, R, M, H, v, p⟩ w' ⟨Z, R, M, H, v', p⟩) := by
  have hpg := Blb.pages_of t h1 h2
  rw [hn] at hpg
  have hsz := hG.out.size
  refine (Put_b Z R M H v p o (withM rs) s t n (a : Int) w h (hG.out.ok hpl) (Lib.hid hpg) (by omega) h2 (Lib.hid hf) (by omega) (by omega) (Lib.hid hdn) hb0 hb1 hl).mono ?_
  rintro e w' (⟨q1, q2, v', p', q3, q4⟩ | ⟨q1, q2, q3, v', q4, q5⟩)
  · exact .inl ⟨q1, q2, v', p', q3, hG.out.more haN haf t h1 h2 hn _, q4⟩
  · exact .inr ⟨q1, q2, q3, v', q4, hG.out.wrote haN haf t s.d.budget.toNat (by omega) 0, q5⟩
theorem switch_g (Z R M H : Nat) (v p : Value) (o o1 : Mni.Loc) (rs2 : List Rf) (ts2 : List ByteArray) (t : ByteArray) (n a : Nat) (w : World) (h : Hid (IsS w ⟨Z, R, M, H, v, p⟩ o (withM rs) s)) (hG : Hid (G N s rs ts pt fs)) (hsub : ∀ r ∈ rs2, r ∈ rs ++ pt) (hap : rs2.Pairwise Ap) (h8 : rs2.length ≤ 8) (htl : ts2.length = rs2.length) (htx : ∀ (i : Nat) (r : Rf) (t : ByteArray), rs2[i]? = some r → ts2[i]? = some t → ∃ n, Txt s.d r t n) (HA : Hid (ManOut w ⟨Z, R, M, H, v, p⟩ o1 (withM rs2))) (ht : layM (withM rs2) = t) (hn : (t.size + 63) / 64 = n) (hf : SpM.find (Sto.used (withM rs) s) (n : Int) (Sto.used (withM rs) s).length 0 = ((a : Int), true)) (haN : a + n ≤ N) (haf : ∀ j, a ≤ j → j < a + n → (Sto.used (withM rs) s)[j]? = some false) (hdn : s.d.down = false) (hb0 : -1 ≤ s.d.budget) (hb1 : s.d.budget < 9223372036854775808) (hl : s.d.soft.length + n ≤ 9000) (hg : s.gen < 4294967295) (hpl : pt.length ≤ 1000000) :
    Calls Tryz.prog 12 #[.pointer (some ⟨Z, 0, none⟩), .agg (Loc.a o1 (withM rs2))] w fun e w' => ((s.d.budget = -1 ∨ (n : Int) < s.d.budget) ∧ e = .returned .nilIface ∧ ∃ o2, IsS w' ⟨Z, R, M, H, .slice none 0 0, .slice none 0 0⟩ o2 (withM rs2) (swB s (a : Int) t n) ∧ G N (swB s (a : Int) t n) rs2 ts2 [] [] ∧ Stp w ⟨Z, R, M, H, v, p⟩ w' ⟨Z, R, M, H, .slice none 0 0, .slice none 0 0⟩) ∨
      (0 ≤ s.d.budget ∧ s.d.budget ≤ (n : Int) ∧ (∃ T u, e = .returned (.iface T u) ∧ IsErr w' (.iface T u) 10) ∧ ∃ v' p' d', IsS w' ⟨Z, R, M, H, v', p'⟩ o (withM rs) { s with d := d' } ∧ G N { s with d := d' } rs ts pt fs ∧ d'.down = s.d.down ∧ d'.budget = 0 ∧ d'.soft.length ≤ s.d.soft.length + n ∧ Stp w ⟨Z, R, M, H, v, p⟩ w' ⟨Z, R, M, H, v', p'⟩) := by
  obtain ⟨m1, m2, m3, m4⟩ := hG.out.man hsub hap h8
  rw [ht] at m3 m4
  have hpg := Blb.pages_of t m3 (by omega)
  rw [hn] at hpg
  have hsz := hG.out.size
  have hg0 : 0 < s.gen := hG.out.rt.g0
  refine (Switch_b Z R M H v p o (withM rs) s o1 (withM rs2) t n (a : Int) w h (hG.out.ok hpl) (by omega) hg rfl (by show rs2.length ≤ 1000000; omega) (by show (upTo rs2.length).length ≤ 1000000; rw [upTo_len]; omega) HA (Lib.hid (by rw [hsz]; exact m1)) (Lib.hid m2) (Lib.hid ht) (Lib.hid hpg) (by omega) (by omega) (hG.out.no haN haf t m3 (by omega) hn) (Lib.hid hf) (by omega) (by omega) (Lib.hid hdn) hb0 hb1 hl).mono ?_
  rintro e w' (⟨q1, q2, o2, q3, q4⟩ | ⟨q1, q2, q3, v', p', d', q4, q5, q6⟩)
  · exact .inl ⟨q1, q2, o2, q3, hG.out.switch haN haf m3 (by omega) hn hsub hap h8 htl htx ht hg, q4⟩
  · refine .inr ⟨q1, q2, q3, v', p', d', q5, ?_⟩
    rcases q4 with rfl | ⟨q4, rfl⟩
    · exact ⟨(hG.out.wrote haN haf t n (Nat.le_refl _) 0).flush, rfl, rfl, Nat.zero_le _, q6⟩
    · refine ⟨hG.out.wrote haN haf t s.d.budget.toNat (by omega) 0, rfl, rfl, ?_, q6⟩
      show (s.d.soft ++ Blb.pgs t (a : Int) s.d.budget.toNat).length ≤ _
      rw [List.length_append, Blb.pgs_length]
      omega
structure Calm (s : St) (g : Int) (k : Nat) : Prop where
  b : s.d.budget = -1
  dn : s.d.down = false
  hd : s.held = []
  sf : s.d.soft.length ≤ k
  gn : s.gen = g
theorem Calm.put {g : Int} {k : Nat} (h : Calm s g k) (a : Int) (t : ByteArray) (n : Nat) : Calm (putB s a t n) g (k + n) := by
  refine ⟨?_, h.dn, h.hd, ?_, h.gn⟩
  · show Blb.bud s.d.budget n = -1
    rw [h.b]
    exact if_pos rfl
  · show (s.d.soft ++ Blb.pgs t a n).length ≤ _
    rw [List.length_append, Blb.pgs_length]
    have := h.sf
    omega
theorem Calm.sw {g : Int} {k : Nat} (h : Calm s g k) (a : Int) (t : ByteArray) (n : Nat) : Calm (swB s a t n) (g + 1) 0 := by
  refine ⟨?_, h.dn, h.hd, Nat.le_refl _, ?_⟩
  · show max (Blb.bud s.d.budget n - 1) (-1) = -1
    rw [h.b]
    unfold Blb.bud
    rw [if_pos rfl]
    decide
  · show s.gen + 1 = _
    rw [h.gn]
theorem calm_F (N : Nat) : Calm (sF N) 1 0 := ⟨rfl, rfl, rfl, Nat.le_refl _, rfl⟩
theorem und_F (N : Nat) : Und 3 (sF N) ([] ++ []) := fun r hr => by
  have hr : r ∈ [(⟨2, (tE.size : Int), AdM.sum tE⟩ : Rf)] := hr
  rw [List.mem_singleton] at hr
  subst hr
  show (2 : Int) + pagesV (tE.size : Int) ≤ 3
  decide
end Go.Proofs.YtaodgnladjafoaaGreatDoor.Sto
