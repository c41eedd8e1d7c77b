/- Several texts in one: words that the proof of the law uses. -/
import Derived.Test.YtaodgnladjafoaaGreatDoorStore14V
import Derived.Test.YtaodgnladjafoaaGreatDoorOpenV
import Derived.OpenShut
import Derived.Lib.SmallJoins
set_option linter.unusedVariables false
set_option linter.unusedSimpArgs false
namespace Go.Proofs.YtaodgnladjafoaaGreatDoor.Sto
open Go.RowKit Go.Proofs.YtaodgnladjafoaaGreatDoorW.PrintWords Go.Proofs.YtaodgnladjafoaaGreatDoorW.PrintLast Go.Proofs.YtaodgnladjafoaaGreatDoorW.PrintMore Go.Proofs.YtaodgnladjafoaaGreatDoor.Md Go.Proofs.YtaodgnladjafoaaGreatDoor.Mni Go.Proofs.YtaodgnladjafoaaGreatDoor.QStoreLasts
open Go.Proofs.YtaodgnladjafoaaGreatDoor.Dk (Dsk IsD Ft mayN rd stl bit Pg)
open Go.Proofs.YtaodgnladjafoaaGreatDoor.Slt (Sl switched flushed bestOf slotOf pick)
open Go.Proofs.YtaodgnladjafoaaGreatDoor.Err (Laid IsErr code_nil code_c Chain at_some at_nil)
variable {N : Nat} {s : St} {rs : List Rf} {ts : List ByteArray} {pt : List Rf} {fs : List ByteArray}
theorem G.start (N : Nat) (h8 : 8 ≤ N) (h2 : N ≤ 2048) : G N (sF N) [] [] [] [] := by
 have hz := Slt.sum_lt tE
 have hrt : (⟨0 + 1, 2, (tE.size : Int), AdM.sum tE⟩ : Sl).Rt := ⟨by decide, by decide, by decide, by decide, by decide, by decide, hz.1, hz.2⟩
 have hn := (Txt.new (d0 N) tE 1 2 (by decide) (by show ((2 : Nat) : Int) + ((1 : Nat) : Int) ≤ (N : Int); omega) (by decide) (by decide) (by decide)).sw (sl := ⟨0 + 1, 2, (tE.size : Int), AdM.sum tE⟩) (by decide)
 refine ⟨rfl, h8, h2, Nat.zero_le _, rfl, rfl, rfl, hrt, List.pairwise_singleton _ _, ?_, ?_, ⟨1, ?_⟩, fun i r t h1 => by simp at h1, fun i r t h1 => by simp at h1, fun x hx => (List.not_mem_nil hx).elim, fun r hr => (List.not_mem_nil hr).elim, fun r hr => (List.not_mem_nil hr).elim⟩
 ·show Dk.upd (rd { d0 N with soft := (d0 N).soft ++ Blb.pgs tE 2 1 }) ((0 + 1) % 2) (⟨0 + 1, 2, (tE.size : Int), AdM.sum tE⟩ : Sl).lay ((0 + 1) % 2) = _
  unfold Dk.upd
  rw [if_pos rfl]
  rfl
 ·show (slotOf (Dk.upd (rd { d0 N with soft := (d0 N).soft ++ Blb.pgs tE 2 1 }) ((0 + 1) % 2) (⟨0 + 1, 2, (tE.size : Int), AdM.sum tE⟩ : Sl).lay ((0 + 1 + 1) % 2))).g < 0 + 1
  unfold Dk.upd
  rw [if_neg (by decide), Blb.rd_pgs, if_neg (by decide)]
  have e : rd (d0 N) ((0 + 1 + 1) % 2) = Dk.pz := rfl
  rw [e, Slt.slotOf_pz]
  decide
 ·have e : layM (withM []) = tE := empty_lay
  rw [e]
  exact hn.on rfl (fun _ _ => rfl)
theorem G.find (h : G N s rs ts pt fs) (n : Nat) (hn : 1 ≤ n) : (∃ a : Nat, SpM.find (Sto.used (withM rs) s) (n : Int) (Sto.used (withM rs) s).length 0 = ((a : Int), true) ∧ a + n ≤ N ∧ (∀ j, a ≤ j → j < a + n → (Sto.used (withM rs) s)[j]? = some false) ∧ ∀ b, b < a → ¬ ∀ j, b ≤ j → j < b + n → (Sto.used (withM rs) s)[j]? = some false) ∨ (SpM.find (Sto.used (withM rs) s) (n : Int) (Sto.used (withM rs) s).length 0 = (0, false) ∧ ∀ b, b + n ≤ N → ¬ ∀ j, b ≤ j → j < b + n → (Sto.used (withM rs) s)[j]? = some false) := by
 have hl := h.len
 rcases find_at (Sto.used (withM rs) s) n hn with ⟨a, h1, _, h3, h4, h5⟩ | ⟨h1, _, h3⟩
 ·exact .inl ⟨a, h1, by omega, h4, h5⟩
 ·exact .inr ⟨h1, fun b hb => h3 b (by omega)⟩
theorem G.man (h : G N s rs ts pt fs) {rs2 : List Rf} (hsub : ∀ r ∈ rs2, r ∈ rs ++ pt) (hap : rs2.Pairwise Ap) (h8 : rs2.length ≤ 8) : rightM (withM rs2) (N : Int) = true ∧ Fits (withM rs2) ∧ 1 ≤ (layM (withM rs2)).size ∧ (layM (withM rs2)).size ≤ 384 := by
 obtain ⟨out, h1, _⟩ := marks_ap (N := N) (rs := rs2) (fun r hr => by
  obtain ⟨t, n, hn⟩ := h.mem (List.mem_cons_of_mem _ (hsub r hr))
  rw [← h.size]
  exact hn.right) hap (fun r hr => by
  obtain ⟨t, n, hn⟩ := h.mem (List.mem_cons_of_mem _ (hsub r hr))
  exact hn.x0)
 have hr := right_marks h1 (by have := h.n8; omega) h.nn h8
 have hf := (lim_right hr (fun r q => h.sums r (hsub r q))).fits
 exact ⟨hr, hf, lay_pos _, lay_size h8 hf⟩
theorem may_of {d : Dsk} {i : Int} (h : d.down = false) (h0 : 0 ≤ i) (h1 : i < d.size) : mayN d i = 0 := by
 unfold mayN
 rw [h, if_neg (by decide), if_neg (by omega)]
theorem open_g (w : World) (R M : Nat) (v : Value) (d : Dsk) (g : Int) (u : Rf) (h : Hid (IsD w R M v d)) (hG : G N (sO d ⟨g, u.f0, u.f1, u.f2⟩) rs ts [] []) (hdn : d.down = false) (hl : d.soft.length ≤ 9000) :
  Calls Tryz.prog 14 #[.pointer (some ⟨R, 0, none⟩)] w fun e w' => ∃ Z H o, w.heap.size ≤ Z ∧ w.heap.size ≤ H ∧ e = .returned (.tuple #[.pointer (some ⟨Z, 0, none⟩), .nilIface]) ∧ IsS w' ⟨Z, R, M, H, v, .slice none 0 0⟩ o (withM rs) (sO d ⟨g, u.f0, u.f1, u.f2⟩) ∧ Below w.heap.size w w' := by
 obtain ⟨n, hn⟩ := hG.ownT
 have hsz : d.size = (N : Int) := hG.size
 have h8 := hG.n8
 have h2 := hG.nn
 have hg0 : 0 < g := hG.rt.g0
 have hn : Txt d ⟨u.f0, u.f1, u.f2⟩ (layM (withM rs)) n := hn
 have hx0 : 2 ≤ u.f0 := hn.x0
 have hx1 : u.f0 + (n : Int) ≤ d.size := hn.x1
 have hf1 : u.f1 = ((layM (withM rs)).size : Int) := hn.len
 have hy : u.f1 ≤ 16384 := hG.rt.y1
 exact Open_ok w R M v d g u.f0 u.f1 u.f2 (layM (withM rs)) (withM rs) n h (by omega) (by omega) (may_of hdn (by decide) (by omega)) (may_of hdn (by decide) (by omega)) (Lib.hid hG.best) hg0 (Lib.hid hdn) hl (Lib.hid hn.pg) hn.n1 (by omega) hx1 (Lib.hid hn.str) hn.sum (by omega) (Lib.hid (by rw [hsz]; exact read_lay hG.right (fun r hr => hG.sums r (by rw [List.append_nil]; exact hr))))
theorem isErr_ft {w w' : World} {R M : Nat} {v u : Value} {d : Dsk} {n : Int} (h : IsErr w u n) (hd : IsD w R M v d) (k : Mod (Ft R M v) w w') : IsErr w' u n :=
 Dk.isErr_mod h k (fun b cs hb hf => by
  rcases hf with rfl | rfl | e
  ·rw [hd.blk] at hb; simp at hb
  ·obtain ⟨es, ck, g, _⟩ := hd.map
   rw [g] at hb; simp at hb
  ·obtain ⟨_, inner, ho, _⟩ := hd.soft
   obtain ⟨cells, hc⟩ := own_typed ho b e
   rw [hc] at hb; simp at hb)
variable {N : Nat} {s : St} {rs : List Rf} {ts : List ByteArray} {pt : List Rf} {fs : List ByteArray}
theorem G.no (h : G N s rs ts pt fs) {a n : Nat} (hN : a + n ≤ N) (hf : ∀ j, a ≤ j → j < a + n → (Sto.used (withM rs) s)[j]? = some false) (t : ByteArray) (h1 : 1 ≤ t.size) (h2 : t.size ≤ 16384) (hp : (t.size + 63) / 64 = n) : ∀ x ∈ s.put, sameR x ⟨(a : Int), (t.size : Int), AdM.sum t⟩ = false := fun x hx => by
 refine sameR_no.2 (fun e => ?_)
 have q : pagesV (t.size : Int) = (((t.size + 63) / 64 : Nat) : Int) := Blb.pages_of t h1 h2
 have hc : cov x (a : Int) := by
  rw [e]
  refine ⟨Int.le_refl _, ?_⟩
  show (a : Int) < (a : Int) + pagesV (t.size : Int)
  rw [q]
  omega
 exact (h.free hN hf a (by omega) (by omega)).2 x (List.mem_cons_of_mem _ (List.mem_append_right _ (by rw [← h.put]; exact hx))) hc
theorem put_g (Z R M H : Nat) (v p : Value) (o : Mni.Loc) (t : ByteArray) (n a : Nat) (w : World) (h : Hid (IsS w ⟨Z, R, M, H, v, p⟩ o (withM rs) s)) (hG : Hid (G N s rs ts pt fs)) (h1 : 1 ≤ t.size) (h2 : t.size ≤ 16384) (hn : (t.size + 63) / 64 = n) (hf : SpM.find (Sto.used (withM rs) s) (n : Int) (Sto.used (withM rs) s).length 0 = ((a : Int), true)) (haN : a + n ≤ N) (haf : ∀ j, a ≤ j → j < a + n → (Sto.used (withM rs) s)[j]? = some false) (hdn : s.d.down = false) (hb0 : -1 ≤ s.d.budget) (hb1 : s.d.budget < 9223372036854775808) (hl : s.d.soft.length + n ≤ 9000) (hpl : pt.length ≤ 1000000) :
  Calls Tryz.prog 11 #[.pointer (some ⟨Z, 0, none⟩), .string t] w fun e w' => ((s.d.budget = -1 ∨ (n : Int) ≤ s.d.budget) ∧ e = .returned (.tuple #[.agg (ra ⟨(a : Int), (t.size : Int), AdM.sum t⟩), .nilIface]) ∧ ∃ v' p', IsS w' ⟨Z, R, M, H, v', p'⟩ o (withM rs) (putB s (a : Int) t n) ∧ G N (putB s (a : Int) t n) rs ts (pt ++ [⟨(a : Int), (t.size : Int), AdM.sum t⟩]) (fs ++ [t]) ∧ Stp w ⟨Z, R, M, H, v, p⟩ w' ⟨Z, R, M, H, v', p'⟩) ∨
   (0 ≤ s.d.budget ∧ s.d.budget < (n : Int) ∧ (∃ T u, e = .returned (.tuple #[.agg (ra zr), .iface T u]) ∧ IsErr w' (.iface T u) 10) ∧ ∃ v', IsS w' ⟨Z, R, M, H, v', p⟩ o (withM rs) (noB s (a : Int) t) ∧ G N (noB s (a : Int) t) rs ts pt fs ∧ Stp w ⟨Z, R, M, H, v, p⟩ w' ⟨Z, R, M, H, v', p⟩) := by
 have hpg := Blb.pages_of t h1 h2
 rw [hn] at hpg
 have hsz := hG.out.size
 refine (Put_b Z R M H v p o (withM rs) s t n (a : Int) w h (hG.out.ok hpl) (Lib.hid hpg) (by omega) h2 (Lib.hid hf) (by omega) (by omega) (Lib.hid hdn) hb0 hb1 hl).mono ?_
 rintro e w' (⟨q1, q2, v', p', q3, q4⟩ | ⟨q1, q2, q3, v', q4, q5⟩)
 ·exact .inl ⟨q1, q2, v', p', q3, hG.out.more haN haf t h1 h2 hn _, q4⟩
 ·exact .inr ⟨q1, q2, q3, v', q4, hG.out.wrote haN haf t s.d.budget.toNat (by omega) 0, q5⟩
theorem switch_g (Z R M H : Nat) (v p : Value) (o o1 : Mni.Loc) (rs2 : List Rf) (ts2 : List ByteArray) (t : ByteArray) (n a : Nat) (w : World) (h : Hid (IsS w ⟨Z, R, M, H, v, p⟩ o (withM rs) s)) (hG : Hid (G N s rs ts pt fs)) (hsub : ∀ r ∈ rs2, r ∈ rs ++ pt) (hap : rs2.Pairwise Ap) (h8 : rs2.length ≤ 8) (htl : ts2.length = rs2.length) (htx : ∀ (i : Nat) (r : Rf) (t : ByteArray), rs2[i]? = some r → ts2[i]? = some t → ∃ n, Txt s.d r t n) (HA : Hid (ManOut w ⟨Z, R, M, H, v, p⟩ o1 (withM rs2))) (ht : layM (withM rs2) = t) (hn : (t.size + 63) / 64 = n) (hf : SpM.find (Sto.used (withM rs) s) (n : Int) (Sto.used (withM rs) s).length 0 = ((a : Int), true)) (haN : a + n ≤ N) (haf : ∀ j, a ≤ j → j < a + n → (Sto.used (withM rs) s)[j]? = some false) (hdn : s.d.down = false) (hb0 : -1 ≤ s.d.budget) (hb1 : s.d.budget < 9223372036854775808) (hl : s.d.soft.length + n ≤ 9000) (hg : s.gen < 4294967295) (hpl : pt.length ≤ 1000000) :
  Calls Tryz.prog 12 #[.pointer (some ⟨Z, 0, none⟩), .agg (Loc.a o1 (withM rs2))] w fun e w' => ((s.d.budget = -1 ∨ (n : Int) < s.d.budget) ∧ e = .returned .nilIface ∧ ∃ o2, IsS w' ⟨Z, R, M, H, .slice none 0 0, .slice none 0 0⟩ o2 (withM rs2) (swB s (a : Int) t n) ∧ G N (swB s (a : Int) t n) rs2 ts2 [] [] ∧ Stp w ⟨Z, R, M, H, v, p⟩ w' ⟨Z, R, M, H, .slice none 0 0, .slice none 0 0⟩) ∨
   (0 ≤ s.d.budget ∧ s.d.budget ≤ (n : Int) ∧ (∃ T u, e = .returned (.iface T u) ∧ IsErr w' (.iface T u) 10) ∧ ∃ v' p' d', IsS w' ⟨Z, R, M, H, v', p'⟩ o (withM rs) { s with d := d' } ∧ G N { s with d := d' } rs ts pt fs ∧ d'.down = s.d.down ∧ d'.budget = 0 ∧ d'.soft.length ≤ s.d.soft.length + n ∧ Stp w ⟨Z, R, M, H, v, p⟩ w' ⟨Z, R, M, H, v', p'⟩) := by
 obtain ⟨m1, m2, m3, m4⟩ := hG.out.man hsub hap h8
 rw [ht] at m3 m4
 have hpg := Blb.pages_of t m3 (by omega)
 rw [hn] at hpg
 have hsz := hG.out.size
 have hg0 : 0 < s.gen := hG.out.rt.g0
 refine (Switch_b Z R M H v p o (withM rs) s o1 (withM rs2) t n (a : Int) w h (hG.out.ok hpl) (by omega) hg rfl (by show rs2.length ≤ 1000000; omega) (by show (upTo rs2.length).length ≤ 1000000; rw [upTo_len]; omega) HA (Lib.hid (by rw [hsz]; exact m1)) (Lib.hid m2) (Lib.hid ht) (Lib.hid hpg) (by omega) (by omega) (hG.out.no haN haf t m3 (by omega) hn) (Lib.hid hf) (by omega) (by omega) (Lib.hid hdn) hb0 hb1 hl).mono ?_
 rintro e w' (⟨q1, q2, o2, q3, q4⟩ | ⟨q1, q2, q3, v', p', d', q4, q5, q6⟩)
 ·exact .inl ⟨q1, q2, o2, q3, hG.out.switch haN haf m3 (by omega) hn hsub hap h8 htl htx ht hg, q4⟩
 ·refine .inr ⟨q1, q2, q3, v', p', d', q5, ?_⟩
  rcases q4 with rfl | ⟨q4, rfl⟩
  ·exact ⟨(hG.out.wrote haN haf t n (Nat.le_refl _) 0).flush, rfl, rfl, Nat.zero_le _, q6⟩
  ·refine ⟨hG.out.wrote haN haf t s.d.budget.toNat (by omega) 0, rfl, rfl, ?_, q6⟩
   show (s.d.soft ++ Blb.pgs t (a : Int) s.d.budget.toNat).length ≤ _
   rw [List.length_append, Blb.pgs_length]
   omega
end Go.Proofs.YtaodgnladjafoaaGreatDoor.Sto
namespace Go.Proofs.YtaodgnladjafoaaGreatDoor.Sto
open Go.RowKit Go.Proofs.YtaodgnladjafoaaGreatDoorW.PrintWords Go.Proofs.YtaodgnladjafoaaGreatDoorW.PrintLast Go.Proofs.YtaodgnladjafoaaGreatDoorW.PrintMore Go.Proofs.YtaodgnladjafoaaGreatDoor.Md Go.Proofs.YtaodgnladjafoaaGreatDoor.Mni Go.Proofs.YtaodgnladjafoaaGreatDoor.QStoreLasts
open Go.Proofs.YtaodgnladjafoaaGreatDoor.Dk (Dsk IsD Ft mayN rd stl bit Pg)
open Go.Proofs.YtaodgnladjafoaaGreatDoor.Slt (Sl switched flushed bestOf slotOf pick slA best_c)
open Go.Proofs.YtaodgnladjafoaaGreatDoor.Err (Laid IsErr code_nil code_c Chain at_some at_nil)
theorem with_runA (l : List Rf) : ∀ (d j : Nat), j + d = min l.length 8 → shalelaw21_with.l0 (d + 1) l (j : Int) (l.take j) (upTo j) (-1) = some (l.take 8, upTo (min l.length 8), -1, [])
 | 0, j, hj => by
  unfold shalelaw21_with.l0
  by_cases h : j < l.length
  ·have e : j = 8 := by omega
   subst e
   rw [if_pos (by omega), if_neg (by omega), show min l.length 8 = 8 by omega]
  ·have e : j = l.length := by omega
   rw [if_neg (by omega), e, List.take_length, List.take_of_length_le (by omega), show min l.length 8 = l.length by omega]
 | d + 1, j, hj => by
  have hjl : j < l.length := by omega
  have e1 : wrap64 ((j : Int) + 1) = ((j + 1 : Nat) : Int) := by unfold wrap64; omega
  have e2 : (⟨(rd_T36 l (j : Int)).f0, (rd_T36 l (j : Int)).f1, (rd_T36 l (j : Int)).f2⟩ : Rf) = l[j] := by rw [rd_rf l j hjl]
  unfold shalelaw21_with.l0
  rw [if_pos (by omega), if_pos (by omega), if_pos (by omega), if_pos (by rw [List.length_take]; omega), if_pos (by rw [upTo_len]; omega), e1, e2, List.take_append_getElem hjl, ← upTo_succ]
  exact with_runA l d (j + 1) (by omega)
theorem with_a (A : Option Addr) (n c : Nat) (l : List Rf) (w : World) (hn : l.length = n) (hc : n ≤ c) (hC : Kd.C rk w A n l) :
  Calls Tryz.prog 13 #[.slice A n c] w fun e w' => ∃ o, e = .returned (.agg (Loc.a o (withM (l.take 8)))) ∧ OwnM w.heap.size w' o (withM (l.take 8)) ∧ Below w.heap.size w w' := by
 subst hn
 have hr := with_runA l (min l.length 8) 0 (by omega)
 have e8 : upTo (min l.length 8) = upTo (l.take 8).length := by rw [List.length_take, Nat.min_comm]
 rw [e8] at hr
 refine (shalelaw21_with.calls (min l.length 8 + 1) A c l (l.take 8) (upTo (l.take 8).length) (-1) [] w hC hc hr).mono ?_
 rintro e w' ⟨v0, v1, v3, rfl, h0, h1, h3, hd⟩
 obtain ⟨A0, c0, rfl⟩ := Kd.R_slice h0
 obtain ⟨A1, c1, rfl⟩ := Kd.R_slice h1
 obtain ⟨A3, c3, rfl⟩ := Kd.R_slice (Kd.S_R h3)
 have g0 := Kd.R_reads' h0
 have g1 := Kd.R_reads' h1
 refine ⟨⟨A0, c0, A1, c1, A3, c3⟩, ?_, ⟨own_F rfl h0, own_F rfl h1, F_nil, g0.2.1, g1.2.1, Nat.zero_le _⟩, hd⟩
 rfl
abbrev Ac := S71
abbrev ack : Kd Ac := k71
theorem rd_ac (l : List Ac) (i : Nat) (h : i < l.length) : rd_T71 l (i : Int) = l[i] := by
 unfold rd_T71
 simp [List.getD_eq_getElem?_getD, List.getElem?_eq_getElem h]
theorem few_run (l : List Ac) : ∀ (n i : Nat), i + n = min l.length 31 → ∃ b, shalelaw21_few.l0 (2 * n + 2) l (i : Int) = some b ∧ (b = true → l.length ≤ 30 ∧ ∀ j, i ≤ j → (h : j < l.length) → (l[j]).f1.size ≤ 20000)
 | 0, i, hi => by
  show ∃ b, shalelaw21_few.l0 2 l (i : Int) = some b ∧ _
  unfold shalelaw21_few.l0
  by_cases hlt : (i : Int) < (l.length : Int)
  ·rw [if_pos hlt, decide_eq_false (by omega)]
   refine ⟨_, rfl, fun hb => ?_⟩
   have := of_decide_eq_true hb
   omega
  ·rw [if_neg hlt]
   refine ⟨_, rfl, fun hb => ⟨?_, fun j hj h => by omega⟩⟩
   have := of_decide_eq_true hb
   omega
 | n + 1, i, hi => by
  have hil : i < l.length := by omega
  obtain ⟨b, hb1, hb2⟩ := few_run l n (i + 1) (by omega)
  show ∃ b, shalelaw21_few.l0 (2 * n + 2 + 2) l (i : Int) = some b ∧ _
  unfold shalelaw21_few.l0
  rw [if_pos (by omega), decide_eq_true (by omega)]
  unfold shalelaw21_few.j1
  rw [if_pos rfl, if_pos (by omega), if_pos (by omega), rd_ac l i hil]
  by_cases hs : ((l[i].f1.size : Nat) : Int) > 20000
  ·rw [if_pos hs]
   exact ⟨false, rfl, fun h => by cases h⟩
  ·have e : wrap64 ((i : Int) + 1) = ((i + 1 : Nat) : Int) := by unfold wrap64; omega
   rw [if_neg hs, e, hb1]
   refine ⟨b, rfl, fun h => ⟨(hb2 h).1, fun j hj hl => ?_⟩⟩
   by_cases hji : j = i
   ·subst hji; omega
   ·exact (hb2 h).2 j (by omega) hl
theorem few_f (l : List Ac) : ∃ k b, shalelaw21_few.f k l = some b ∧ (b = true → l.length ≤ 30 ∧ ∀ j, (h : j < l.length) → (l[j]).f1.size ≤ 20000) := by
 obtain ⟨b, h1, h2⟩ := few_run l (min l.length 31) 0 (by omega)
 exact ⟨_, b, h1, fun h => ⟨(h2 h).1, fun j hj => (h2 h).2 j (Nat.zero_le _) hj⟩⟩
set_option maxHeartbeats 8000000 in
set_option maxRecDepth 100000 in
theorem Hold_r (Z R M H : Nat) (v p : Value) (A : Option Addr) (c : Nat) (o : Mni.Loc) (m : Man) (s : St) (l : List Rf) (w : World) (h : Hid (IsS w ⟨Z, R, M, H, v, p⟩ o m s)) (hl : l.length ≤ 1000000) (hu : Hid (∀ w', Mod (· = H) w w' → Kd.C rk w' A l.length l)) :
  Calls Tryz.prog 27 #[.pointer (some ⟨Z, 0, none⟩), .slice A l.length c] w fun e w' => e = .returned (.tuple #[]) ∧ IsS w' ⟨Z, R, M, H, v, p⟩ o m { s with held := l.foldl hold1 s.held } ∧ Mod (· = H) w w' := by
 have hZH : Z ≠ H := h.out.n1
 obtain ⟨n, hn'⟩ : ∃ n, l.length = n := ⟨_, rfl⟩
 rw [hn'] at hu hl
 have HN := Lib.hid hn'
 rw [hn']
 clear hn'
 have HM0 := Lib.hid (Mod.refl (· = H) w)
 go_enter Tryz.func27, Tryz.ntmps27
 go_wp2_with fail
 go_loopg [8] n (fun kq v8 wr => ∃ (j : Nat), v8 = .int .i64 (j : Int) ∧ kq + j = n ∧ Hid (IsS wr ⟨Z, R, M, H, v, p⟩ o m { s with held := (l.take j).foldl hold1 s.held }) ∧ Hid (Mod (· = H) w wr))
 case atStart => exact ⟨0, rfl, rfl, h, HM0⟩
 case round =>
  clear HM0 h
  obtain ⟨j, rfl, hk, H1, HM1⟩ := hrel
  cases gk with
  | zero =>
   have hj : j = n := by omega
   have c1 : decide ((j : Int) < (n : Int)) = false := decide_eq_false (by omega)
   have c1b : decide (j < n) = false := decide_eq_false (by omega)
   have HJ := Lib.hid hj
   clear hk hj
   go_wp2_with fail
   go_end0
   refine ⟨rfl, ?_, HM1.out⟩
   have z := H1.out
   rw [HJ.out, ← HN.out, List.take_length] at z
   exact z
  | succ k1 =>
   have hj : j < n := by omega
   have hjl : j < l.length := by rw [HN.out]; exact hj
   have c1 : decide ((j : Int) < (n : Int)) = true := decide_eq_true (by omega)
   have c1b : decide (j < n) = true := decide_eq_true hj
   have p1 : (0 ≤ (j : Int)) = True := eq_true (by omega)
   have p2 : ((j : Int) < (n : Int)) = True := eq_true (by omega)
   have q5 : IntKind.i64.wrap ((j : Int) + 1) = (j : Int) + 1 := IntWalk.i64_in _ (by omega)
   have hrr : True ∧ True ∧ Kd.C rk wr A n l := ⟨trivial, trivial, hu.out wr HM1.out⟩
   obtain ⟨ad, ead, x0, x1, x2⟩ := at_T36 hrr.2.2 (j : Int) (by omega) (by omega)
   have ex : rd_T36 l (j : Int) = l[j] := by
    unfold rd_T36
    simp [List.getD_eq_getElem?_getD, List.getElem?_eq_getElem hjl]
   rw [ex] at x0 x1 x2
   simp only [Int.toNat_natCast] at x0 x1 x2
   obtain ⟨x, hx⟩ : ∃ x, l[j] = x := ⟨_, rfl⟩
   rw [hx] at x0 x1 x2
   obtain ⟨L, hL⟩ : ∃ L, (l.take j).foldl hold1 s.held = L := ⟨_, rfl⟩
   have HF := Lib.hid (show (l.take (j + 1)).foldl hold1 s.held = hold1 L x by rw [fold_snoc hold1 s.held l j x hjl hx, hL])
   rw [hL] at H1
   have HX0 := Lib.hid x0
   have HX1 := Lib.hid x1
   have HX2 := Lib.hid x2
   obtain rfl : A = some ad := ead
   obtain ⟨G, hG⟩ : ∃ G, getH L x = G := ⟨_, rfl⟩
   have HG := Lib.hid hG
   clear hx ex x0 x1 x2 hL hrr hG
   go_upto_region 3 with (first
    | (refine wl_loadRf (ad.add (j * 3)) x HX0.out HX1.out HX2.out rfl _ rfl rfl ?_)
    | (refine wl_allocR rfl rfl ?_)
    | (refine wl_storeRn #[.int .i64 0, .int .i64 0, .int .u32 0] rfl x rfl _ _ rfl rfl rfl ?_))
   have hd : Below wr.heap.size wr (wr.alloc (Obj.cells (ra x) 36 (0, 0))) := (Below.refl _ _).alloc (Nat.le_refl _) _
   have hBl : H < wr.heap.size := H1.out.held.lt
   have HK3 := Lib.hid (heap_alloc_last wr (Obj.cells (ra x) 36 (0, 0)))
   have H3 := Lib.hid (H1.out.on hd)
   have HM3 := Lib.hid (HM1.out.on_below hd (Nat.le_refl _))
   obtain ⟨B, hB⟩ : ∃ B, wr.heap.size = B := ⟨_, rfl⟩
   rw [hB] at HK3 hBl
   simp only [hB]
   generalize (wr.alloc (Obj.cells (ra x) 36 (0, 0))) = w3 at *
   have hBH : ¬ (B = H) := by omega
   clear hd hB H1 HM1 HX0 HX1 HX2 hBl
   go_upto_region 4 with fail
   have hdd : Below w3.heap.size w3 (World.drew w3) := (Below.refl _ _).drew
   have H4 := Lib.hid (H3.out.on hdd)
   have HM4 := Lib.hid (HM3.out.on_below hdd (Nat.le_refl _))
   have HK4 := blk_to HK3 hdd
   clear hdd
   refine start_ (n := 10) (S := fun w' => w'.cell? ⟨Z, 10, none⟩ = some (.map (some H)) ∧ w'.heap[B]? = some (Obj.cells (ra x) 36 (0, 0)) ∧ (Instr.lookup 80 (.map (some H)) (.agg (ra x)) false).run Tryz.prog w' = .ok (.int .i64 G) w') (ds := [9]) (bzz 10 0) (by kernel_rfl) rfl rfl ⟨H4.out.cs.2.2.2, HK4.out, (by rw [← HG.out]; exact look_H _ H L x H4.out.held)⟩ (fun hHeld => ?_)
   refine rpz 0 14 ?_ (bzz 10 1) rfl rfl ?_ ?_ ?_ ?_
   rotate_left
   ·intro w'
    go_simp
    with_reducible rfl
   rotate_left
   ·simp only [zaP, zsA, zsZ, zsS, i64_w, i32_w]
    rfl
   refine rpz 1 15 ?_ (bzz 10 3) rfl rfl ?_ ?_ ?_ ?_
   rotate_left
   ·intro w'
    go_simp
    with_reducible rfl
   rotate_left
   ·simp only [zaP, zsA, zsZ, zsS, i64_w, i32_w]
    rfl
   refine rpz 2 16 ?_ (bzz 10 7) rfl rfl ?_ ?_ ?_ ?_
   rotate_left
   ·intro w'
    go_simp
    with_reducible rfl
   rotate_left
   ·simp only [zaP, zsA, zsZ, zsS, i64_w, i32_w]
    rfl
   refine rtz 3 17 ?_ (bzz 10 15) rfl rfl hHeld ?_ ?_ ?_ ?_
   rotate_left
   ·rintro w' ⟨s0, s1, s2⟩
    go_simp
    with_reducible rfl
   rotate_left
   ·simp only [zaP, zsA, zsZ, zsS, i64_w, i32_w]
    rfl
   refine rtz 4 18 ?_ (bzz 10 31) rfl rfl hHeld ?_ ?_ ?_ ?_
   rotate_left
   ·rintro w' ⟨s0, s1, s2⟩
    refine (exec_loadR (x := .tmp 5) ?_ ?_  s1).trans ?_
    ·rfl
    ·rfl
    ·with_reducible rfl
   rotate_left
   ·simp only [zaP, zsA, zsZ, zsS, i64_w, i32_w]
    rfl
   refine rtz 5 19 ?_ (bzz 10 63) rfl rfl hHeld ?_ ?_ ?_ ?_
   rotate_left
   ·rintro w' ⟨s0, s1, s2⟩
    refine (exec_look (x := .tmp 17) (y := .tmp 18) ?_ ?_ ?_  s2).trans ?_
    ·rfl
    ·rfl
    ·rfl
    ·with_reducible rfl
   rotate_left
   ·simp only [zaP, zsA, zsZ, zsS, i64_w, i32_w]
    rfl
   refine rpz 6 20 ?_ (bzz 10 127) rfl rfl ?_ ?_ ?_ ?_
   rotate_left
   ·intro w'
    go_simp
    with_reducible rfl
   rotate_left
   ·simp only [zaP, zsA, zsZ, zsS, i64_w, i32_w]
    rfl
   refine roz 7 21 (bzz 10 255) rfl rfl (fun K hK => ?_)
   obtain ⟨w5, st, he5, hh5, hm5, hs5, hst⟩ := entry_H _ H L x H4.out.held
   rw [HG.out] at he5 hh5
   refine value_ (by rfl) rfl (exec_entry rfl rfl rfl he5) ?_
   have H5 := Lib.hid (H4.out.setHeld hm5 hh5)
   have HM5 := Lib.hid (HM4.out.tr hm5)
   have HK5 := Lib.hid (hm5.blk HK4.out hBH)
   refine hK.out _ _ ⟨H5.out.cs.2.2.2, HK5.out, look_put hh5⟩ (fun hHeld => ?_)
   clear hK K
   refine norm_ (a' := ?_) ?_ ?_
   rotate_left
   ·show Act.put _ (some 21) _ = _
    simp only [zaP, zsA, zsZ, zsS, i64_w, i32_w]
    rfl
   refine rpz 8 22 ?_ (bzz 10 511) rfl rfl ?_ ?_ ?_ ?_
   rotate_left
   ·intro w'
    go_simp
    with_reducible rfl
   rotate_left
   ·simp only [zaP, zsA, zsZ, zsS, i64_w, i32_w]
    rfl
   refine last_ (i := 9) (N := none) (bzz 10 1023) rfl rfl (by kernel_rfl) (by decide) (fun K hK => ?_)
   obtain ⟨w6, he6, hh6, hm6, hs6⟩ := hst w5 (wrap64 (G + 1)) rfl
   refine skip_ (by rfl) rfl (exec_estore rfl rfl rfl rfl he6) ?_
   have H6 := Lib.hid (H5.out.setHeld hm6 hh6)
   have HM6 := Lib.hid (HM5.out.tr hm6)
   have HK6 := Lib.hid (hm6.blk HK5.out hBH)
   refine hK.out _ _ ?_
   clear hK K
   refine done_ (by kernel_rfl) ?_
   clear hHeld H4 HM4 HK4 H5 HM5 HK5 he5 hh5 hm5 hs5 hst he6 hh6 hm6 hs6 HK3 H3 HM3 HK6
   go_wp2_with fail
   go_roundg k1
   case measure => exact Nat.lt_succ_self _
   case rel =>
    refine ⟨j + 1, by simp, by omega, Lib.hid ?_, HM6⟩
    rw [HF.out]
    unfold hold1
    rw [HG.out]
    exact H6.out
set_option maxHeartbeats 8000000 in
set_option maxRecDepth 100000 in
theorem Free_r (Z R M H : Nat) (v p : Value) (A : Option Addr) (c : Nat) (o : Mni.Loc) (m : Man) (s : St) (l : List Rf) (w : World) (h : Hid (IsS w ⟨Z, R, M, H, v, p⟩ o m s)) (hl : l.length ≤ 1000000) (hu : Hid (∀ w', Mod (· = H) w w' → Kd.C rk w' A l.length l)) :
  Calls Tryz.prog 28 #[.pointer (some ⟨Z, 0, none⟩), .slice A l.length c] w fun e w' => e = .returned (.tuple #[]) ∧ IsS w' ⟨Z, R, M, H, v, p⟩ o m { s with held := l.foldl free1 s.held } ∧ Mod (· = H) w w' := by
 have hZH : Z ≠ H := h.out.n1
 obtain ⟨n, hn'⟩ : ∃ n, l.length = n := ⟨_, rfl⟩
 rw [hn'] at hu hl
 have HN := Lib.hid hn'
 rw [hn']
 clear hn'
 have HM0 := Lib.hid (Mod.refl (· = H) w)
 go_enter Tryz.func28, Tryz.ntmps28
 go_wp2_with fail
 go_loopg [8] n (fun kq v8 wr => ∃ (j : Nat), v8 = .int .i64 (j : Int) ∧ kq + j = n ∧ Hid (IsS wr ⟨Z, R, M, H, v, p⟩ o m { s with held := (l.take j).foldl free1 s.held }) ∧ Hid (Mod (· = H) w wr))
 case atStart => exact ⟨0, rfl, rfl, h, HM0⟩
 case round =>
  clear HM0 h
  obtain ⟨j, rfl, hk, H1, HM1⟩ := hrel
  cases gk with
  | zero =>
   have hj : j = n := by omega
   have c1 : decide ((j : Int) < (n : Int)) = false := decide_eq_false (by omega)
   have c1b : decide (j < n) = false := decide_eq_false (by omega)
   have HJ := Lib.hid hj
   clear hk hj
   go_wp2_with fail
   go_end0
   refine ⟨rfl, ?_, HM1.out⟩
   have z := H1.out
   rw [HJ.out, ← HN.out, List.take_length] at z
   exact z
  | succ k1 =>
   have hj : j < n := by omega
   have hjl : j < l.length := by rw [HN.out]; exact hj
   have c1 : decide ((j : Int) < (n : Int)) = true := decide_eq_true (by omega)
   have c1b : decide (j < n) = true := decide_eq_true hj
   have p1 : (0 ≤ (j : Int)) = True := eq_true (by omega)
   have p2 : ((j : Int) < (n : Int)) = True := eq_true (by omega)
   have q5 : IntKind.i64.wrap ((j : Int) + 1) = (j : Int) + 1 := IntWalk.i64_in _ (by omega)
   have hrr : True ∧ True ∧ Kd.C rk wr A n l := ⟨trivial, trivial, hu.out wr HM1.out⟩
   obtain ⟨ad, ead, x0, x1, x2⟩ := at_T36 hrr.2.2 (j : Int) (by omega) (by omega)
   have ex : rd_T36 l (j : Int) = l[j] := by
    unfold rd_T36
    simp [List.getD_eq_getElem?_getD, List.getElem?_eq_getElem hjl]
   rw [ex] at x0 x1 x2
   simp only [Int.toNat_natCast] at x0 x1 x2
   obtain ⟨x, hx⟩ : ∃ x, l[j] = x := ⟨_, rfl⟩
   rw [hx] at x0 x1 x2
   obtain ⟨L, hL⟩ : ∃ L, (l.take j).foldl free1 s.held = L := ⟨_, rfl⟩
   have HF := Lib.hid (show (l.take (j + 1)).foldl free1 s.held = free1 L x by rw [fold_snoc free1 s.held l j x hjl hx, hL])
   rw [hL] at H1
   have HX0 := Lib.hid x0
   have HX1 := Lib.hid x1
   have HX2 := Lib.hid x2
   obtain rfl : A = some ad := ead
   obtain ⟨G, hG⟩ : ∃ G, getH L x = G := ⟨_, rfl⟩
   have HG := Lib.hid hG
   clear hx ex x0 x1 x2 hL hrr hG
   go_upto_region 3 with (first
    | (refine wl_loadRf (ad.add (j * 3)) x HX0.out HX1.out HX2.out rfl _ rfl rfl ?_)
    | (refine wl_allocR rfl rfl ?_)
    | (refine wl_storeRn #[.int .i64 0, .int .i64 0, .int .u32 0] rfl x rfl _ _ rfl rfl rfl ?_))
   have hd : Below wr.heap.size wr (wr.alloc (Obj.cells (ra x) 36 (0, 0))) := (Below.refl _ _).alloc (Nat.le_refl _) _
   have hBl : H < wr.heap.size := H1.out.held.lt
   have HK3 := Lib.hid (heap_alloc_last wr (Obj.cells (ra x) 36 (0, 0)))
   have H3 := Lib.hid (H1.out.on hd)
   have HM3 := Lib.hid (HM1.out.on_below hd (Nat.le_refl _))
   obtain ⟨B, hB⟩ : ∃ B, wr.heap.size = B := ⟨_, rfl⟩
   rw [hB] at HK3 hBl
   simp only [hB]
   generalize (wr.alloc (Obj.cells (ra x) 36 (0, 0))) = w3 at *
   have hBH : ¬ (B = H) := by omega
   clear hd hB H1 HM1 HX0 HX1 HX2 hBl
   go_upto_region 4 with fail
   have hdd : Below w3.heap.size w3 (World.drew w3) := (Below.refl _ _).drew
   have H4 := Lib.hid (H3.out.on hdd)
   have HM4 := Lib.hid (HM3.out.on_below hdd (Nat.le_refl _))
   have HK4 := blk_to HK3 hdd
   clear hdd
   refine start_ (n := 10) (S := fun w' => w'.cell? ⟨Z, 10, none⟩ = some (.map (some H)) ∧ w'.heap[B]? = some (Obj.cells (ra x) 36 (0, 0)) ∧ (Instr.lookup 80 (.map (some H)) (.agg (ra x)) false).run Tryz.prog w' = .ok (.int .i64 G) w') (ds := [9]) (bzz 10 0) (by kernel_rfl) rfl rfl ⟨H4.out.cs.2.2.2, HK4.out, (by rw [← HG.out]; exact look_H _ H L x H4.out.held)⟩ (fun hHeld => ?_)
   refine rpz 0 14 ?_ (bzz 10 1) rfl rfl ?_ ?_ ?_ ?_
   rotate_left
   ·intro w'
    go_simp
    with_reducible rfl
   rotate_left
   ·simp only [zaP, zsA, zsZ, zsS, i64_w, i32_w]
    rfl
   refine rpz 1 15 ?_ (bzz 10 3) rfl rfl ?_ ?_ ?_ ?_
   rotate_left
   ·intro w'
    go_simp
    with_reducible rfl
   rotate_left
   ·simp only [zaP, zsA, zsZ, zsS, i64_w, i32_w]
    rfl
   refine rpz 2 16 ?_ (bzz 10 7) rfl rfl ?_ ?_ ?_ ?_
   rotate_left
   ·intro w'
    go_simp
    with_reducible rfl
   rotate_left
   ·simp only [zaP, zsA, zsZ, zsS, i64_w, i32_w]
    rfl
   refine rtz 3 17 ?_ (bzz 10 15) rfl rfl hHeld ?_ ?_ ?_ ?_
   rotate_left
   ·rintro w' ⟨s0, s1, s2⟩
    go_simp
    with_reducible rfl
   rotate_left
   ·simp only [zaP, zsA, zsZ, zsS, i64_w, i32_w]
    rfl
   refine rtz 4 18 ?_ (bzz 10 31) rfl rfl hHeld ?_ ?_ ?_ ?_
   rotate_left
   ·rintro w' ⟨s0, s1, s2⟩
    refine (exec_loadR (x := .tmp 5) ?_ ?_  s1).trans ?_
    ·rfl
    ·rfl
    ·with_reducible rfl
   rotate_left
   ·simp only [zaP, zsA, zsZ, zsS, i64_w, i32_w]
    rfl
   refine rtz 5 19 ?_ (bzz 10 63) rfl rfl hHeld ?_ ?_ ?_ ?_
   rotate_left
   ·rintro w' ⟨s0, s1, s2⟩
    refine (exec_look (x := .tmp 17) (y := .tmp 18) ?_ ?_ ?_  s2).trans ?_
    ·rfl
    ·rfl
    ·rfl
    ·with_reducible rfl
   rotate_left
   ·simp only [zaP, zsA, zsZ, zsS, i64_w, i32_w]
    rfl
   refine rpz 6 20 ?_ (bzz 10 127) rfl rfl ?_ ?_ ?_ ?_
   rotate_left
   ·intro w'
    go_simp
    with_reducible rfl
   rotate_left
   ·simp only [zaP, zsA, zsZ, zsS, i64_w, i32_w]
    rfl
   refine roz 7 21 (bzz 10 255) rfl rfl (fun K hK => ?_)
   obtain ⟨w5, st, he5, hh5, hm5, hs5, hst⟩ := entry_H _ H L x H4.out.held
   rw [HG.out] at he5 hh5
   refine value_ (by rfl) rfl (exec_entry rfl rfl rfl he5) ?_
   have H5 := Lib.hid (H4.out.setHeld hm5 hh5)
   have HM5 := Lib.hid (HM4.out.tr hm5)
   have HK5 := Lib.hid (hm5.blk HK4.out hBH)
   refine hK.out _ _ ⟨H5.out.cs.2.2.2, HK5.out, look_put hh5⟩ (fun hHeld => ?_)
   clear hK K
   refine norm_ (a' := ?_) ?_ ?_
   rotate_left
   ·show Act.put _ (some 21) _ = _
    simp only [zaP, zsA, zsZ, zsS, i64_w, i32_w]
    rfl
   refine rpz 8 22 ?_ (bzz 10 511) rfl rfl ?_ ?_ ?_ ?_
   rotate_left
   ·intro w'
    go_simp
    with_reducible rfl
   rotate_left
   ·simp only [zaP, zsA, zsZ, zsS, i64_w, i32_w]
    rfl
   refine last_ (i := 9) (N := none) (bzz 10 1023) rfl rfl (by kernel_rfl) (by decide) (fun K hK => ?_)
   obtain ⟨w6, he6, hh6, hm6, hs6⟩ := hst w5 (wrap64 (G - 1)) rfl
   refine skip_ (by rfl) rfl (exec_estore rfl rfl rfl rfl he6) ?_
   have H6 := Lib.hid (H5.out.setHeld hm6 hh6)
   have HM6 := Lib.hid (HM5.out.tr hm6)
   have HK6 := Lib.hid (hm6.blk HK5.out hBH)
   refine hK.out _ _ ?_
   clear hK K
   refine done_ (by kernel_rfl) ?_
   clear hHeld H4 HM4 HK4 H5 HM5 HK5 he5 hh5 hm5 hs5 hst he6 hh6 hm6 hs6 HK3 H3 HM3
   obtain ⟨G1, hG1⟩ : ∃ G1, wrap64 (G - 1) = G1 := ⟨_, rfl⟩
   have HG1 := Lib.hid hG1
   rw [hG1] at H6
   clear hG1
   go_upto_region 5 with fail
   have hdd : Below w6.heap.size w6 (World.drew w6) := (Below.refl _ _).drew
   have H7 := Lib.hid (H6.out.on hdd)
   have HM7 := Lib.hid (HM6.out.on_below hdd (Nat.le_refl _))
   have HK7 := blk_to HK6 hdd
   clear hdd H6 HM6 HK6
   by_cases hz : G1 ≤ 0
   ·have t1 : decide (G1 ≤ 0) = true := decide_eq_true hz
    refine start_ (n := 7) (S := fun w' => w'.cell? ⟨Z, 10, none⟩ = some (.map (some H)) ∧ w'.heap[B]? = some (Obj.cells (ra x) 36 (0, 0)) ∧ (Instr.lookup 80 (.map (some H)) (.agg (ra x)) false).run Tryz.prog w' = .ok (.int .i64 G1) w') (ds := []) (bzz 7 0) (by kernel_rfl) rfl rfl ⟨H7.out.cs.2.2.2, HK7.out, look_put H7.out.held⟩ (fun hHeld => ?_)
    refine rpz 0 23 ?_ (bzz 7 1) rfl rfl ?_ ?_ ?_ ?_
    rotate_left
    ·intro w'
     go_simp
     with_reducible rfl
    rotate_left
    ·simp only [zaP, zsA, zsZ, zsS, i64_w, i32_w]
     rfl
    refine rpz 1 24 ?_ (bzz 7 3) rfl rfl ?_ ?_ ?_ ?_
    rotate_left
    ·intro w'
     go_simp
     with_reducible rfl
    rotate_left
    ·simp only [zaP, zsA, zsZ, zsS, i64_w, i32_w]
     rfl
    refine rpz 2 25 ?_ (bzz 7 7) rfl rfl ?_ ?_ ?_ ?_
    rotate_left
    ·intro w'
     go_simp
     with_reducible rfl
    rotate_left
    ·simp only [zaP, zsA, zsZ, zsS, i64_w, i32_w]
     rfl
    refine rtz 3 26 ?_ (bzz 7 15) rfl rfl hHeld ?_ ?_ ?_ ?_
    rotate_left
    ·rintro w' ⟨s0, s1, s2⟩
     go_simp
     with_reducible rfl
    rotate_left
    ·simp only [zaP, zsA, zsZ, zsS, i64_w, i32_w]
     rfl
    refine rtz 4 27 ?_ (bzz 7 31) rfl rfl hHeld ?_ ?_ ?_ ?_
    rotate_left
    ·rintro w' ⟨s0, s1, s2⟩
     refine (exec_loadR (x := .tmp 5) ?_ ?_  s1).trans ?_
     ·rfl
     ·rfl
     ·with_reducible rfl
    rotate_left
    ·simp only [zaP, zsA, zsZ, zsS, i64_w, i32_w]
     rfl
    refine rtz 5 28 ?_ (bzz 7 63) rfl rfl hHeld ?_ ?_ ?_ ?_
    rotate_left
    ·rintro w' ⟨s0, s1, s2⟩
     refine (exec_look (x := .tmp 26) (y := .tmp 27) ?_ ?_ ?_  s2).trans ?_
     ·rfl
     ·rfl
     ·rfl
     ·with_reducible rfl
    rotate_left
    ·simp only [zaP, zsA, zsZ, zsS, i64_w, i32_w]
     rfl
    refine rpz 6 29 ?_ (bzz 7 127) rfl rfl ?_ ?_ ?_ ?_
    rotate_left
    ·intro w'
     go_simp
     with_reducible rfl
    rotate_left
    ·simp only [zaP, zsA, zsZ, zsS, i64_w, i32_w]
     rfl
    refine done_ (by kernel_rfl) ?_
    have HZ := Lib.hid hz
    clear hHeld hz
    generalize (World.drew w6) = w7 at *
    go_upto_region 6 with fail
    have hdd : Below w7.heap.size w7 (World.drew w7) := (Below.refl _ _).drew
    have H8 := Lib.hid (H7.out.on hdd)
    have HM8 := Lib.hid (HM7.out.on_below hdd (Nat.le_refl _))
    have HK8 := blk_to HK7 hdd
    clear hdd H7 HM7 HK7
    refine start_ (n := 6) (S := fun w' => w'.cell? ⟨Z, 10, none⟩ = some (.map (some H)) ∧ w'.heap[B]? = some (Obj.cells (ra x) 36 (0, 0))) (ds := [5]) (bzz 6 0) (by kernel_rfl) rfl rfl ⟨H8.out.cs.2.2.2, HK8.out⟩ (fun hHeld => ?_)
    refine rpz 0 30 ?_ (bzz 6 1) rfl rfl ?_ ?_ ?_ ?_
    rotate_left
    ·intro w'
     go_simp
     with_reducible rfl
    rotate_left
    ·simp only [zaP, zsA, zsZ, zsS, i64_w, i32_w]
     rfl
    refine rpz 1 31 ?_ (bzz 6 3) rfl rfl ?_ ?_ ?_ ?_
    rotate_left
    ·intro w'
     go_simp
     with_reducible rfl
    rotate_left
    ·simp only [zaP, zsA, zsZ, zsS, i64_w, i32_w]
     rfl
    refine rpz 2 32 ?_ (bzz 6 7) rfl rfl ?_ ?_ ?_ ?_
    rotate_left
    ·intro w'
     go_simp
     with_reducible rfl
    rotate_left
    ·simp only [zaP, zsA, zsZ, zsS, i64_w, i32_w]
     rfl
    refine rtz 3 33 ?_ (bzz 6 15) rfl rfl hHeld ?_ ?_ ?_ ?_
    rotate_left
    ·rintro w' ⟨s0, s1⟩
     go_simp
     with_reducible rfl
    rotate_left
    ·simp only [zaP, zsA, zsZ, zsS, i64_w, i32_w]
     rfl
    refine rtz 4 34 ?_ (bzz 6 31) rfl rfl hHeld ?_ ?_ ?_ ?_
    rotate_left
    ·rintro w' ⟨s0, s1⟩
     refine (exec_loadR (x := .tmp 5) ?_ ?_  s1).trans ?_
     ·rfl
     ·rfl
     ·with_reducible rfl
    rotate_left
    ·simp only [zaP, zsA, zsZ, zsS, i64_w, i32_w]
     rfl
    refine last_ (i := 5) (N := none) (bzz 6 63) rfl rfl (by kernel_rfl) (by decide) (fun K hK => ?_)
    have hdel := fun ty => del_H _ H _ x 80 36 ty rfl H8.out.held
    obtain ⟨w9, he9, hh9, hm9, hs9⟩ := del_all hdel
    refine value_ (by rfl) rfl (exec_del rfl rfl rfl he9) ?_
    have H9 := Lib.hid (H8.out.setHeld hm9 hh9)
    have HM9 := Lib.hid (HM8.out.tr hm9)
    refine hK.out _ _ ?_
    clear hK K
    refine done_ (by kernel_rfl) ?_
    clear hHeld H8 HM8 HK8 he9 hh9 hm9 hs9 hdel
    go_wp2_with fail
    go_roundg k1
    case measure => exact Nat.lt_succ_self _
    case rel =>
     refine ⟨j + 1, by simp, by omega, Lib.hid ?_, HM9⟩
     rw [HF.out]
     unfold free1
     rw [HG.out, HG1.out, if_pos HZ.out]
     exact H9.out
   ·have t1 : decide (G1 ≤ 0) = false := decide_eq_false hz
    refine start_ (n := 7) (S := fun w' => w'.cell? ⟨Z, 10, none⟩ = some (.map (some H)) ∧ w'.heap[B]? = some (Obj.cells (ra x) 36 (0, 0)) ∧ (Instr.lookup 80 (.map (some H)) (.agg (ra x)) false).run Tryz.prog w' = .ok (.int .i64 G1) w') (ds := []) (bzz 7 0) (by kernel_rfl) rfl rfl ⟨H7.out.cs.2.2.2, HK7.out, look_put H7.out.held⟩ (fun hHeld => ?_)
    refine rpz 0 23 ?_ (bzz 7 1) rfl rfl ?_ ?_ ?_ ?_
    rotate_left
    ·intro w'
     go_simp
     with_reducible rfl
    rotate_left
    ·simp only [zaP, zsA, zsZ, zsS, i64_w, i32_w]
     rfl
    refine rpz 1 24 ?_ (bzz 7 3) rfl rfl ?_ ?_ ?_ ?_
    rotate_left
    ·intro w'
     go_simp
     with_reducible rfl
    rotate_left
    ·simp only [zaP, zsA, zsZ, zsS, i64_w, i32_w]
     rfl
    refine rpz 2 25 ?_ (bzz 7 7) rfl rfl ?_ ?_ ?_ ?_
    rotate_left
    ·intro w'
     go_simp
     with_reducible rfl
    rotate_left
    ·simp only [zaP, zsA, zsZ, zsS, i64_w, i32_w]
     rfl
    refine rtz 3 26 ?_ (bzz 7 15) rfl rfl hHeld ?_ ?_ ?_ ?_
    rotate_left
    ·rintro w' ⟨s0, s1, s2⟩
     go_simp
     with_reducible rfl
    rotate_left
    ·simp only [zaP, zsA, zsZ, zsS, i64_w, i32_w]
     rfl
    refine rtz 4 27 ?_ (bzz 7 31) rfl rfl hHeld ?_ ?_ ?_ ?_
    rotate_left
    ·rintro w' ⟨s0, s1, s2⟩
     refine (exec_loadR (x := .tmp 5) ?_ ?_  s1).trans ?_
     ·rfl
     ·rfl
     ·with_reducible rfl
    rotate_left
    ·simp only [zaP, zsA, zsZ, zsS, i64_w, i32_w]
     rfl
    refine rtz 5 28 ?_ (bzz 7 63) rfl rfl hHeld ?_ ?_ ?_ ?_
    rotate_left
    ·rintro w' ⟨s0, s1, s2⟩
     refine (exec_look (x := .tmp 26) (y := .tmp 27) ?_ ?_ ?_  s2).trans ?_
     ·rfl
     ·rfl
     ·rfl
     ·with_reducible rfl
    rotate_left
    ·simp only [zaP, zsA, zsZ, zsS, i64_w, i32_w]
     rfl
    refine rpz 6 29 ?_ (bzz 7 127) rfl rfl ?_ ?_ ?_ ?_
    rotate_left
    ·intro w'
     go_simp
     with_reducible rfl
    rotate_left
    ·simp only [zaP, zsA, zsZ, zsS, i64_w, i32_w]
     rfl
    refine done_ (by kernel_rfl) ?_
    have HZ := Lib.hid hz
    clear hHeld hz HK7
    generalize (World.drew w6) = w7 at *
    go_wp2_with fail
    go_roundg k1
    case measure => exact Nat.lt_succ_self _
    case rel =>
     refine ⟨j + 1, by simp, by omega, Lib.hid ?_, HM7⟩
     rw [HF.out]
     unfold free1
     rw [HG.out, HG1.out, if_neg (by have := HZ.out; omega)]
     exact H7.out
set_option maxHeartbeats 8000000 in
set_option maxRecDepth 100000 in
theorem Switch_n (Z R M H : Nat) (v p : Value) (o : Mni.Loc) (m : Man) (s : St) (o1 : Mni.Loc) (m1 : Man) (tM : ByteArray) (n1 : Nat) (a : Int) (w : World) (h : Hid (IsS w ⟨Z, R, M, H, v, p⟩ o m s)) (hok : Ok m s) (hg1 : s.gen < 4294967295) (hs1 : m1.snaps = []) (hr1 : m1.refs.length ≤ 1000000) (hk1 : m1.stack.length ≤ 1000000) (HA : Hid (ManOut w ⟨Z, R, M, H, v, p⟩ o1 m1)) (HRm : Hid (rightM m1 s.d.size = true)) (HFm : Hid (Fits m1)) (HTm : Hid (layM m1 = tM)) (hp1 : Hid (Blb.pagesV (tM.size : Int) = (n1 : Int))) (hn1 : 1 ≤ n1) (hf : Hid (SpM.find (used m s) (n1 : Int) (used m s).length 0 = (a, false))) :
  Calls Tryz.prog 12 #[.pointer (some ⟨Z, 0, none⟩), .agg (Loc.a o1 m1)] w fun e w' => ∃ T u, e = .returned (.iface T u) ∧ IsErr w' (.iface T u) 9 ∧ Below w.heap.size w w' := by
 have hs2 := rightM_sz hok.rt
 have hpl := hok.pl
 have hm1 : m1.snaps.length ≤ 1000000 := by rw [hs1]; exact Nat.zero_le _
 have t1 : (s.gen == 4294967295) = false := beq_eq_false_iff_ne.2 (by omega)
 have HP0 := h.out.lt
 go_enter Tryz.func12, Tryz.ntmps12
 go_upto_region 1 with fail
 have hd1 : Below w.heap.size w (w.alloc (Obj.cells (Loc.a o1 m1) 43 (0, 0))) := (Below.refl _ _).alloc (Nat.le_refl _) _
 have HP1 := Lib.hid (heap_alloc_last w (Obj.cells (Loc.a o1 m1) 43 (0, 0)))
 have H1 := Lib.hid (h.out.on hd1)
 have HB1 := Lib.hid hd1
 obtain ⟨P, hP⟩ : ∃ P, w.heap.size = P := ⟨_, rfl⟩
 have HW := Lib.hid hP
 rw [hP] at HP1 HP0
 try simp only [hP]
 generalize (w.alloc (Obj.cells (Loc.a o1 m1) 43 (0, 0))) = w1 at *
 have HPf0 := Lib.hid (show ¬ Fs ⟨Z, R, M, H, v, p⟩ P from fun f => Nat.lt_irrefl _ (HP0 P f))
 have HA1 := Lib.hid (HA.out.on hd1)
 clear hd1 hP HP0 h HA
 go_upto_region 3 with fail
 have hdd : Below w1.heap.size w1 (World.drew w1) := (Below.refl _ _).drew
 have Hd := Lib.hid (H1.out.on hdd)
 have HBd := below_to HB1 (Nat.le_refl _) hdd
 have HPd := blk_to HP1 hdd
 have HAd := Lib.hid (HA1.out.on hdd)
 clear hdd H1 HB1 HP1 HA1
 refine start_ (n := 12) (S := fun w' => w'.heap[P]? = some (Obj.cells (Loc.a o1 m1) 43 (0, 0)) ∧ w'.cell? ⟨Z, 0, none⟩ = some (.pointer (some ⟨R, 0, none⟩))) (ds := []) (bzz 12 0) (by kernel_rfl) rfl rfl ⟨HPd.out, Hd.out.cs.1⟩ (fun hHeld => ?_)
 refine rpz 1 15 ?_ (bzz 12 2) rfl rfl ?_ ?_ ?_ ?_
 rotate_left
 ·intro w'
  go_simp
  with_reducible rfl
 rotate_left
 ·simp only [zaP, zsA, zsZ, zsS, i64_w, i32_w]
  rfl
 refine rpz 2 16 ?_ (bzz 12 6) rfl rfl ?_ ?_ ?_ ?_
 rotate_left
 ·intro w'
  go_simp
  with_reducible rfl
 rotate_left
 ·simp only [zaP, zsA, zsZ, zsS, i64_w, i32_w]
  rfl
 refine rpz 3 17 ?_ (bzz 12 14) rfl rfl ?_ ?_ ?_ ?_
 rotate_left
 ·intro w'
  go_simp
  with_reducible rfl
 rotate_left
 ·simp only [zaP, zsA, zsZ, zsS, i64_w, i32_w]
  rfl
 refine rtz 0 14 ?_ (bzz 12 15) rfl rfl hHeld ?_ ?_ ?_ ?_
 rotate_left
 ·rintro w' ⟨s0, s1⟩
  refine (exec_loadM (x := .tmp 3) ?_ ?_  s0).trans ?_
  ·rfl
  ·rfl
  ·with_reducible rfl
 rotate_left
 ·simp only [zaP, zsA, zsZ, zsS, i64_w, i32_w]
  rfl
 refine rtz 4 18 ?_ (bzz 12 31) rfl rfl hHeld ?_ ?_ ?_ ?_
 rotate_left
 ·rintro w' ⟨s0, s1⟩
  go_simp
  with_reducible rfl
 rotate_left
 ·simp only [zaP, zsA, zsZ, zsS, i64_w, i32_w]
  rfl
 refine roz 5 19 (bzz 12 63) rfl rfl (fun K hK => ?_)
 refine goes_ Tryz.func39 (by kernel_rfl) rfl #[.pointer (some ⟨R, 0, none⟩)] (by rfl) rfl rfl (by simp only [List.map_toArray, List.map_cons, List.map_nil]; rfl) ?_
 with_reducible refine (Dk.size_c _ R M v s.d (Lib.hid Hd.out.dsk)).mono ?_
 rintro e w3 ⟨rfl, hd⟩
 refine ⟨_, rfl, ?_⟩
 have H3 := Lib.hid (Hd.out.on hd)
 have HB3 := below_to HBd (Nat.le_refl _) hd
 have HP3 := blk_to HPd hd
 have HA3 := Lib.hid (HAd.out.on hd)
 clear hd
 refine hK.out _ _ ⟨HP3.out, H3.out.cs.1⟩ (fun hHeld => ?_)
 clear hK K
 refine norm_ (a' := ?_) ?_ ?_
 rotate_left
 ·show Act.put _ (some 19) _ = _
  simp only [zaP, zsA, zsZ, zsS, i64_w, i32_w]
  rfl
 refine roz 6 20 (bzz 12 127) rfl rfl (fun K hK => ?_)
 refine goes_ Tryz.func38 (by kernel_rfl) rfl #[.agg (Loc.a o1 m1), .int .i64 s.d.size] (by rfl) rfl rfl (by simp only [List.map_toArray, List.map_cons, List.map_nil]; rfl) ?_
 with_reducible refine (lay_yes o1 m1 s.d.size _ (Lib.hid HA3.out.at) hm1 hr1 HRm HFm).mono ?_
 rintro e w4 ⟨rfl, hd⟩
 refine ⟨_, rfl, ?_⟩
 have H4 := Lib.hid (H3.out.on hd)
 have HB4 := below_to HB3 (Nat.le_refl _) hd
 have HP4 := blk_to HP3 hd
 have HA4 := Lib.hid (HA3.out.on hd)
 clear hd
 rw [HTm.out]
 refine hK.out _ _ ⟨HP4.out, H4.out.cs.1⟩ (fun hHeld => ?_)
 clear hK K
 refine norm_ (a' := ?_) ?_ ?_
 rotate_left
 ·show Act.put _ (some 20) _ = _
  simp only [zaP, zsA, zsZ, zsS, i64_w, i32_w]
  rfl
 refine rpz 7 13 ?_ (bzz 12 255) rfl rfl ?_ ?_ ?_ ?_
 rotate_left
 ·intro w'
  go_simp
  with_reducible rfl
 rotate_left
 ·simp only [zaP, zsA, zsZ, zsS, i64_w, i32_w]
  rfl
 refine rpz 8 21 ?_ (bzz 12 511) rfl rfl ?_ ?_ ?_ ?_
 rotate_left
 ·intro w'
  go_simp
  with_reducible rfl
 rotate_left
 ·simp only [zaP, zsA, zsZ, zsS, i64_w, i32_w]
  rfl
 refine rpz 9 22 ?_ (bzz 12 1023) rfl rfl ?_ ?_ ?_ ?_
 rotate_left
 ·intro w'
  go_simp
  with_reducible rfl
 rotate_left
 ·simp only [zaP, zsA, zsZ, zsS, i64_w, i32_w]
  rfl
 refine rpz 10 5 ?_ (bzz 12 2047) rfl rfl ?_ ?_ ?_ ?_
 rotate_left
 ·intro w'
  go_simp
  with_reducible rfl
 rotate_left
 ·simp only [zaP, zsA, zsZ, zsS, i64_w, i32_w]
  rfl
 refine rpz 11 6 ?_ (bzz 12 4095) rfl rfl ?_ ?_ ?_ ?_
 rotate_left
 ·intro w'
  go_simp
  with_reducible rfl
 rotate_left
 ·simp only [zaP, zsA, zsZ, zsS, i64_w, i32_w]
  rfl
 refine done_ (by kernel_rfl) ?_
 clear hHeld Hd HBd HPd H3 HB3 HP3 HAd HA3
 have HS4 := Lib.hid (Stp.of_below (q := ⟨Z, R, M, H, v, p⟩) HB4.out)
 have HBq := HB4
 clear HB4
 have c1 := H4.out.cs.2.1
 go_wp2_with fail
 clear c1
 refine (Put_no Z R M H v p o m s tM n1 a w4 H4 hok hp1 (by omega) hf).mono ?_
 rintro e w5 ⟨T, u, rfl, he, hd⟩
 have HE5 := Lib.hid he
 have HB5 := below_to HBq (Nat.le_refl _) hd
 clear he hd HA4 HS4 H4 HP4 HPf0
 go_upto_if 42 with (first | (refine wl_allocR rfl rfl ?_) | (refine wl_storeRn #[.int .i64 0, .int .i64 0, .int .u32 0] rfl zr rfl _ _ rfl rfl rfl ?_))
 have hd6 : Below w5.heap.size w5 (w5.alloc (Obj.cells (ra zr) 36 (0, 0))) := (Below.refl _ _).alloc (Nat.le_refl _) _
 have HE6 := Lib.hid (HE5.out.on hd6)
 have HB6 := below_to HB5 (Nat.le_refl _) hd6
 generalize (w5.alloc (Obj.cells (ra zr) 36 (0, 0))) = w6 at *
 clear hd6 HE5
 go_wp2_with fail
 go_ret
 exact ⟨_, _, rfl, HE6.out, HB6.out⟩
set_option maxHeartbeats 2000000 in
set_option maxRecDepth 100000 in
theorem Open_down (w : World) (R M : Nat) (v : Value) (d : Dsk) (h : Hid (IsD w R M v d)) (hsz : 8 ≤ d.size) (hdn : d.down = true) (hl : d.soft.length ≤ 9000) :
  Calls Tryz.prog 14 #[.pointer (some ⟨R, 0, none⟩)] w fun e w' => ∃ T u, e = .returned (.tuple #[.pointer none, .iface T u]) ∧ IsErr w' (.iface T u) 11 ∧ Below w.heap.size w w' := by
 have hm : mayN d ((0 : Nat) : Int) = 11 := by
  unfold mayN
  rw [if_pos hdn]
 go_enter Tryz.func14, Tryz.ntmps14
 go_wp2_with fail
 refine (made_ok w R M v d h hsz).mono ?_
 rintro e w1 ⟨Z, H, hZ, hH, rfl, hd, hi⟩
 have H1 := Lib.hid hi
 have HB1 := Lib.hid hd
 clear hd hi h hZ hH
 go_wp2_with fail
 refine (best_c w1 R M v d (Lib.hid H1.out.dsk) (by omega)).mono ?_
 rintro e w2 ⟨hd, _, _, h4⟩
 obtain ⟨T, u, rfl, he⟩ := h4 0 (by decide) (fun i hi => absurd hi (Nat.not_lt_zero _)) (by rw [hm]; decide)
 rw [hm] at he
 have HE2 := Lib.hid he
 have HB2 := below_to HB1 (Nat.le_refl _) hd
 clear he hd h4 H1 HB1 hm
 go_wp2_with (first | (refine Slt.wl_allocS rfl rfl ?_) | (refine Slt.wl_storeSn 0 0 0 0 0 0 0 0 rfl _ _ rfl rfl (by rfl) ?_))
 have hd3 : Below w2.heap.size w2 (w2.alloc (Obj.cells (slA 0 0 0 0) 62 (0, 0))) := (Below.refl _ _).alloc (Nat.le_refl _) _
 go_ret2
 exact ⟨T, u, rfl, HE2.out.on hd3, HB2.out.trans (hd3.mono HB2.out.size)⟩
open Go.WideShapes
section
variable {H : Type} {enc : TypeId × Value → H} {w : World} {base : Nat} {spare : Nat → Bool} {held : Bool}
theorem trod4 {t : TypeId} {f0 f1 f2 f3 : Field} {fuel : Nat} {cs : List Value} {x : DataW H × List MemPlace} (ht : Tryz.prog.underlying t = some (.struct #[f0, f1, f2, f3])) (h : DataW.trod enc Tryz.prog w base spare held fuel t cs = some x) :
  ∃ y0 y1 y2 y3 n, cs.length = Tryz.prog.cellsOf t ∧ x.1 = .agg [y0.1, y1.1, y2.1, y3.1] ∧ DataW.trod enc Tryz.prog w base spare held n f0.type ((cs.drop f0.offset).take (Tryz.prog.cellsOf f0.type)) = some y0 ∧
   DataW.trod enc Tryz.prog w base spare held n f1.type ((cs.drop f1.offset).take (Tryz.prog.cellsOf f1.type)) = some y1 ∧ DataW.trod enc Tryz.prog w base spare held n f2.type ((cs.drop f2.offset).take (Tryz.prog.cellsOf f2.type)) = some y2 ∧
   DataW.trod enc Tryz.prog w base spare held n f3.type ((cs.drop f3.offset).take (Tryz.prog.cellsOf f3.type)) = some y3 := by
 obtain ⟨xs, n, _, rfl, hl, hlen, hf⟩ := DataW.trod_struct ht h
 match xs, hlen with
 | [y0, y1, y2, y3], _ => exact ⟨y0, y1, y2, y3, n, hl, by simp, by simpa using hf 0 f0 rfl, by simpa using hf 1 f1 rfl, by simpa using hf 2 f2 rfl, by simpa using hf 3 f3 rfl⟩
structure AcW (o : Ac) : Prop where
 a0 : 0 ≤ o.f0 ∧ o.f0 ≤ 255
 a2 : 0 ≤ o.f2 ∧ o.f2 ≤ 255
 a3 : 0 ≤ o.f3 ∧ o.f3 < 18446744073709551616
theorem trod_acW {fuel : Nat} {cs : List Value} {u : DataW H × List MemPlace} (h : DataW.trod enc Tryz.prog w base spare held fuel 71 cs = some u) : ∃ o : Ac, ack.K w o cs ∧ AcW o := by
 obtain ⟨y0, y1, y2, y3, n, hl, hx, h0, h1, h2, h3⟩ := trod4 Tryz.underlying71 h
 have e4 : Tryz.prog.cellsOf 71 = 4 := by kernel_rfl
 have e8 : Tryz.prog.cellsOf 5 = 1 := by kernel_rfl
 have es : Tryz.prog.cellsOf 9 = 1 := by kernel_rfl
 have e64 : Tryz.prog.cellsOf 52 = 1 := by kernel_rfl
 simp only [e8, es, e64] at h0 h1 h2 h3
 obtain ⟨a0, c0, _, w0⟩ := DataW.trod_int Tryz.underlying5 h0
 obtain ⟨a1, c1, _⟩ := DataW.trod_string Tryz.underlying9 h1
 obtain ⟨a2, c2, _, w2⟩ := DataW.trod_int Tryz.underlying5 h2
 obtain ⟨a3, c3, _, w3⟩ := DataW.trod_int Tryz.underlying52 h3
 have b0 : 0 ≤ a0 ∧ a0 ≤ 255 := by
  simp [Lit.wf, IntKind.min, IntKind.max, IntKind.bits, IntKind.signed] at w0
  omega
 have b2 : 0 ≤ a2 ∧ a2 ≤ 255 := by
  simp [Lit.wf, IntKind.min, IntKind.max, IntKind.bits, IntKind.signed] at w2
  omega
 have b3 : 0 ≤ a3 ∧ a3 < 18446744073709551616 := by
  simp [Lit.wf, IntKind.min, IntKind.max, IntKind.bits, IntKind.signed] at w3
  omega
 rw [e4] at hl
 refine ⟨⟨a0, a1, a2, a3⟩, ?_, b0, b2, b3⟩
 match cs, hl with
 | [v0, v1, v2, v3], _ =>
  simp at c0 c1 c2 c3
  rw [c0, c1, c2, c3]
  exact k71_mk w ⟨a0, a1, a2, a3⟩
theorem open_lasts {a : Option Addr} {len cap : Nat} {D : DataW H} {p : List MemPlace}
  (h : DataW.Trod enc Tryz.prog w base spare held 68 (.slice a len cap) D p) : ∃ xs : List Ac, xs.length = len ∧ len ≤ cap ∧ Kd.C ack w a len xs ∧ ∀ x ∈ xs, AcW x :=
 Opn.open_CP ack AcW Tryz.underlying68 (by kernel_rfl) (fun n cs y hy => by
  obtain ⟨z, hz, hw⟩ := trod_acW hy
  exact ⟨z, hz, hw⟩) h
end
end Go.Proofs.YtaodgnladjafoaaGreatDoor.Sto
namespace Go.Proofs.YtaodgnladjafoaaGreatDoor.Sto
open Go.RowKit Go.Proofs.YtaodgnladjafoaaGreatDoorW.PrintWords Go.Proofs.YtaodgnladjafoaaGreatDoorW.PrintLast Go.Proofs.YtaodgnladjafoaaGreatDoorW.PrintMore Go.Proofs.YtaodgnladjafoaaGreatDoor.Md Go.Proofs.YtaodgnladjafoaaGreatDoor.Mni Go.Proofs.YtaodgnladjafoaaGreatDoor.QStoreLasts
open Go.Proofs.YtaodgnladjafoaaGreatDoor.Dk (Dsk IsD Ft mayN rd stl bit Pg)
open Go.Proofs.YtaodgnladjafoaaGreatDoor.Slt (Sl switched flushed bestOf slotOf pick)
open Go.Proofs.YtaodgnladjafoaaGreatDoor.Err (Laid IsErr code_nil code_c Chain at_some at_nil)
def Mn (w : World) (P : Nat → Prop) (o : Mni.Loc) (m : Man) : Prop := ∀ w2 : World, (∀ k, k < w.heap.size → P k → w2.heap[k]? = w.heap[k]?) → w.heap.size ≤ w2.heap.size → At w2 o m
theorem Mn.re {w w1 : World} {P P' : Nat → Prop} {o : Mni.Loc} {m : Man} (h : Mn w P o m) (hs : w.heap.size ≤ w1.heap.size) (hk : ∀ k, k < w.heap.size → P k → P' k ∧ w1.heap[k]? = w.heap[k]?) : Mn w1 P' o m :=
 fun w2 h2 hs2 => h w2 (fun k hl hp => (h2 k (Nat.lt_of_lt_of_le hl hs) (hk k hl hp).1).trans (hk k hl hp).2) (Nat.le_trans hs hs2)
theorem F_re {α : Type} {d : Kd α} {w w1 : World} {P P' : Nat → Prop} {A : Option Addr} {n : Nat} {xs : List α} (h : Kd.F d w P A n xs) (hs : w.heap.size ≤ w1.heap.size) (hk : ∀ k, k < w.heap.size → P k → P' k ∧ w1.heap[k]? = w.heap[k]?) : Kd.F d w1 P' A n xs :=
 fun W' hW' => h W' (fun k hp hl => (hW' k (hk k hl hp).1 (Nat.lt_of_lt_of_le hl hs)).trans (hk k hl hp).2)
def Pq (q : Pl) (u v : Value) (k : Nat) : Prop := ¬ Fs q k ∧ u.ownBlock ≠ some k ∧ v.ownBlock ≠ some k
theorem IsS.outM {w w1 : World} {q : Pl} {o : Mni.Loc} {m : Man} {s : St} {S : Nat → Prop} (h : IsS w q o m s) (k : Mod S w w1) (hS : ∀ i, Fs q i → ¬ S i) (hm : Mn w1 (fun k => ¬ Fs q k) o m) : IsS w1 q o m s :=
 ⟨k.blk h.blk (hS _ (.inl rfl)), h.dsk.mod k (fun i hi => hS i (.inr (.inr (.inl hi)))), h.held.mod k (hS _ (.inr (.inl rfl))), row_on (α := Rf) rfl h.put k (fun b hb => hS b (.inr (.inr (.inr hb)))), fun w2 h2 hs => hm w2 h2 hs, h.n1, h.n2, h.n3⟩
structure Ow (W w : World) (q : Pl) {α : Type} (d : Kd α) (e : Nat) (u : Value) (xs : List α) : Prop where
 r : d.R e w 0 (fun _ => True) u xs
 n : ∀ b, u.ownBlock = some b → ¬ Fs q b ∧ W.heap.size ≤ b
section
variable {W w w1 : World} {q q1 : Pl} {α : Type} {d : Kd α} {e : Nat} {u : Value} {xs : List α}
theorem Ow.nil (W w : World) (q : Pl) (d : Kd α) (e : Nat) : Ow W w q d e (.slice none 0 0) [] := ⟨Kd.R_nil _ _ _ _ _, fun b hb => by cases hb⟩
theorem Ow.on (h : Ow W w q d e u xs) (k : Below w.heap.size w w1) : Ow W w1 q d e u xs := ⟨Kd.R_below h.r k, h.n⟩
theorem Ow.lt (h : Ow W w q d e u xs) (b : Nat) (hb : u.ownBlock = some b) : b < w.heap.size := ((Kd.R_bound h.r).1 b hb).2.2.1
theorem Ow.step (hE : d.E = []) (h : Ow W w q d e u xs) (k : Stp w q w1 q1) : Ow W w1 q1 d e u xs :=
 ⟨row_on hE h.r k.mod (fun b hb f => (h.n b hb).1 f), fun b hb => ⟨(k.out (h.lt b hb) (h.n b hb).1).1, (h.n b hb).2⟩⟩
theorem Ow.mod (hE : d.E = []) {S : Nat → Prop} (h : Ow W w q d e u xs) (k : Mod S w w1) (hn : ∀ b, u.ownBlock = some b → ¬ S b) : Ow W w1 q d e u xs := ⟨row_on hE h.r k hn, h.n⟩
theorem Ow.c (h : Ow W w q d e u xs) : ∃ A c, u = .slice A xs.length c ∧ xs.length ≤ c ∧ Kd.C d w A xs.length xs := Kd.R_reads h.r
end
structure Lv (W w : World) (q : Pl) (o : Mni.Loc) (s : St) (rs : List Rf) (ts : List ByteArray) (pt : List Rf) (fs : List ByteArray) (A9 : Option Addr) (c9 : Nat) (A11 : Option Addr) (c11 : Nat) (u10 u12 : Value) : Prop where
 run : Run W w q o (withM rs) s
 mn : Mn w (Pq q u10 u12) o (withM rs)
 r9 : Kd.F rk w (Pq q u10 u12) A9 rs.length rs
 l9 : rs.length ≤ c9
 r11 : Kd.F Kd.string w (Pq q u10 u12) A11 ts.length ts
 l11 : ts.length ≤ c11
 w10 : Ow W w q rk 36 u10 pt
 w12 : Ow W w q Kd.string 9 u12 fs
section
variable {W w w1 : World} {q q1 : Pl} {o : Mni.Loc} {s s1 : St} {rs : List Rf} {ts : List ByteArray} {pt : List Rf} {fs : List ByteArray} {A9 : Option Addr} {c9 : Nat} {A11 : Option Addr} {c11 : Nat} {u10 u12 : Value}
theorem Lv.on (h : Lv W w q o s rs ts pt fs A9 c9 A11 c11 u10 u12) (k : Below w.heap.size w w1) : Lv W w1 q o s rs ts pt fs A9 c9 A11 c11 u10 u12 :=
 have hk : ∀ i, i < w.heap.size → Pq q u10 u12 i → Pq q u10 u12 i ∧ w1.heap[i]? = w.heap[i]? := fun i hl hp => ⟨hp, k.block i hl⟩
 ⟨h.run.on k, h.mn.re k.size hk, F_re h.r9 k.size hk, h.l9, F_re h.r11 k.size hk, h.l11, h.w10.on k, h.w12.on k⟩
theorem Lv.step (h : Lv W w q o s rs ts pt fs A9 c9 A11 c11 u10 u12) (k : Stp w q w1 q1) (h' : IsS w1 q1 o (withM rs) s1) : Lv W w1 q1 o s1 rs ts pt fs A9 c9 A11 c11 u10 u12 :=
 have hk : ∀ i, i < w.heap.size → Pq q u10 u12 i → Pq q1 u10 u12 i ∧ w1.heap[i]? = w.heap[i]? := fun i hl hp => ⟨⟨(k.out hl hp.1).1, hp.2⟩, (k.out hl hp.1).2⟩
 ⟨h.run.step k h', h.mn.re k.mod.size hk, F_re h.r9 k.mod.size hk, h.l9, F_re h.r11 k.mod.size hk, h.l11, h.w10.step rfl k, h.w12.step rfl k⟩
theorem Lv.clear (h : Lv W w q o s rs ts pt fs A9 c9 A11 c11 u10 u12) : Lv W w q o s rs ts [] [] A9 c9 A11 c11 (.slice none 0 0) (.slice none 0 0) :=
 have hk : ∀ i, i < w.heap.size → Pq q u10 u12 i → Pq q (.slice none 0 0) (.slice none 0 0) i ∧ w.heap[i]? = w.heap[i]? := fun i _ hp => ⟨⟨hp.1, (fun e => by cases e), (fun e => by cases e)⟩, rfl⟩
 ⟨h.run, h.mn.re (Nat.le_refl _) hk, F_re h.r9 (Nat.le_refl _) hk, h.l9, F_re h.r11 (Nat.le_refl _) hk, h.l11, Ow.nil _ _ _ _ _, Ow.nil _ _ _ _ _⟩
theorem Lv.push10 (h : Lv W w q o s rs ts pt fs A9 c9 A11 c11 u10 u12) {u1 : Value} {pt1 : List Rf} (hR : rk.R 36 w1 0 (fun _ => True) u1 pt1) (hg : w.grownBy w1 u10.ownBlock) (hat : u1.ownBlock = u10.ownBlock ∨ ∃ b, u1.ownBlock = some b ∧ w.heap.size ≤ b) : Lv W w1 q o s rs ts pt1 fs A9 c9 A11 c11 u1 u12 := by
 have k := mod_grown hg
 have hk : ∀ i, i < w.heap.size → Pq q u10 u12 i → Pq q u1 u12 i ∧ w1.heap[i]? = w.heap[i]? := fun i hl hp => ⟨⟨hp.1, by
  rcases hat with e | ⟨b, e, h2⟩
  ·rw [e]; exact hp.2.1
  ·rw [e]; intro e2; cases e2; omega, hp.2.2⟩, k.block i hl (fun e => hp.2.1 e)⟩
 have hm : Mn w1 (fun i => ¬ Fs q i) o (withM rs) := h.mn.re k.size (fun i hl hp => ⟨hp.1, k.block i hl (fun e => hp.2.1 e)⟩)
 refine ⟨⟨h.run.bel.trans (k.below h.run.bel.size (fun i hi e => by have := (h.w10.n i e).2; omega)), h.run.fr, h.run.is.outM k (fun i hi e => (h.w10.n i e).1 hi) hm⟩, h.mn.re k.size hk, F_re h.r9 k.size hk, h.l9, F_re h.r11 k.size hk, h.l11, ⟨hR, fun b hb => ?_⟩, h.w12.mod rfl k (fun b hb e => ?_)⟩
 ·rcases hat with e | ⟨b2, e, h2⟩
  ·exact h.w10.n b (by rw [← e]; exact hb)
  ·rw [e] at hb
   cases hb
   exact ⟨fun f => by have := h.run.is.lt b f; omega, Nat.le_trans h.run.bel.size h2⟩
 ·obtain ⟨c1, h1⟩ := Kd.R_typed h.w12.r b hb
  obtain ⟨c2, h2⟩ := Kd.R_typed h.w10.r b e
  rw [h1] at h2
  simp at h2
theorem Lv.push12 (h : Lv W w q o s rs ts pt fs A9 c9 A11 c11 u10 u12) {u1 : Value} {fs1 : List ByteArray} (hR : Kd.string.R 9 w1 0 (fun _ => True) u1 fs1) (hg : w.grownBy w1 u12.ownBlock) (hat : u1.ownBlock = u12.ownBlock ∨ ∃ b, u1.ownBlock = some b ∧ w.heap.size ≤ b) : Lv W w1 q o s rs ts pt fs1 A9 c9 A11 c11 u10 u1 := by
 have k := mod_grown hg
 have hk : ∀ i, i < w.heap.size → Pq q u10 u12 i → Pq q u10 u1 i ∧ w1.heap[i]? = w.heap[i]? := fun i hl hp => ⟨⟨hp.1, hp.2.1, by
  rcases hat with e | ⟨b, e, h2⟩
  ·rw [e]; exact hp.2.2
  ·rw [e]; intro e2; cases e2; omega⟩, k.block i hl (fun e => hp.2.2 e)⟩
 have hm : Mn w1 (fun i => ¬ Fs q i) o (withM rs) := h.mn.re k.size (fun i hl hp => ⟨hp.1, k.block i hl (fun e => hp.2.2 e)⟩)
 refine ⟨⟨h.run.bel.trans (k.below h.run.bel.size (fun i hi e => by have := (h.w12.n i e).2; omega)), h.run.fr, h.run.is.outM k (fun i hi e => (h.w12.n i e).1 hi) hm⟩, h.mn.re k.size hk, F_re h.r9 k.size hk, h.l9, F_re h.r11 k.size hk, h.l11, h.w10.mod rfl k (fun b hb e => ?_), ⟨hR, fun b hb => ?_⟩⟩
 ·obtain ⟨c1, h1⟩ := Kd.R_typed h.w10.r b hb
  obtain ⟨c2, h2⟩ := Kd.R_typed h.w12.r b e
  rw [h1] at h2
  simp at h2
 ·rcases hat with e | ⟨b2, e, h2⟩
  ·exact h.w12.n b (by rw [← e]; exact hb)
  ·rw [e] at hb
   cases hb
   exact ⟨fun f => by have := h.run.is.lt b f; omega, Nat.le_trans h.run.bel.size h2⟩
theorem Lv.new {rs2 : List Rf} {ts2 : List ByteArray} {o2 : Mni.Loc} (hr : Run W w1 q1 o2 (withM rs2) s1) (h9 : Kd.F rk w1 (fun k => ¬ Fs q1 k) A9 rs2.length rs2) (l9 : rs2.length ≤ c9) (h11 : Kd.F Kd.string w1 (fun k => ¬ Fs q1 k) A11 ts2.length ts2) (l11 : ts2.length ≤ c11) : Lv W w1 q1 o2 s1 rs2 ts2 [] [] A9 c9 A11 c11 (.slice none 0 0) (.slice none 0 0) :=
 have hk : ∀ i, i < w1.heap.size → ¬ Fs q1 i → Pq q1 (.slice none 0 0) (.slice none 0 0) i ∧ w1.heap[i]? = w1.heap[i]? := fun i _ hp => ⟨⟨hp, (fun e => by cases e), (fun e => by cases e)⟩, rfl⟩
 have hm : Mn w1 (fun k => ¬ Fs q1 k) o2 (withM rs2) := fun w2 h2 hs => hr.is.man w2 h2 hs
 ⟨hr, hm.re (Nat.le_refl _) hk, F_re h9 (Nat.le_refl _) hk, l9, F_re h11 (Nat.le_refl _) hk, l11, Ow.nil _ _ _ _ _, Ow.nil _ _ _ _ _⟩
structure Vl (N : Nat) (s : St) (rs : List Rf) (ts : List ByteArray) (pt : List Rf) (fs : List ByteArray) (k : Nat) : Prop where
 g : G N s rs ts pt fs
 dn : s.d.down = false
 b0 : -1 ≤ s.d.budget
 b1 : s.d.budget ≤ 20
 so : s.d.soft.length ≤ 260 * k
 ge : s.gen ≤ 1 + (k : Int)
 pl : pt.length ≤ k
theorem Vl.more {N k k' : Nat} (h : Vl N s rs ts pt fs k) (hk : k ≤ k') : Vl N s rs ts pt fs k' := ⟨h.g, h.dn, h.b0, h.b1, by have := h.so; omega, by have := h.ge; omega, by have := h.pl; omega⟩
end
variable {N : Nat} {s : St} {rs : List Rf} {ts : List ByteArray} {pt : List Rf} {fs : List ByteArray}
theorem put_l (Z R M H : Nat) (v p : Value) (o : Mni.Loc) (t : ByteArray) (k : Nat) (w : World) (h : Hid (IsS w ⟨Z, R, M, H, v, p⟩ o (withM rs) s)) (hV : Hid (Vl N s rs ts pt fs k)) (hk : k ≤ 29) :
  Calls Tryz.prog 11 #[.pointer (some ⟨Z, 0, none⟩), .string t] w fun e w' => ∃ v' p' s', IsS w' ⟨Z, R, M, H, v', p'⟩ o (withM rs) s' ∧ Stp w ⟨Z, R, M, H, v, p⟩ w' ⟨Z, R, M, H, v', p'⟩ ∧ ((∃ T u, e = .returned (.tuple #[.agg (ra zr), .iface T u]) ∧ (∃ n, IsErr w' (.iface T u) n ∧ n ≠ 0) ∧ Vl N s' rs ts pt fs (k + 1)) ∨ (∃ r, e = .returned (.tuple #[.agg (ra r), .nilIface]) ∧ Vl N s' rs ts (pt ++ [r]) (fs ++ [t]) (k + 1))) := by
 have hV := hV.out
 by_cases ht : 1 ≤ t.size ∧ t.size ≤ 16384
 ·obtain ⟨n, hn⟩ : ∃ n, (t.size + 63) / 64 = n := ⟨_, rfl⟩
  have hpg := Blb.pages_of t ht.1 ht.2
  rw [hn] at hpg
  have hso := hV.so
  rcases hV.g.find n (by omega) with ⟨a, h1, h3, h4, _⟩ | ⟨h1, _⟩
  ·refine (put_g Z R M H v p o t n a w h (Lib.hid hV.g) ht.1 ht.2 hn h1 h3 h4 hV.dn hV.b0 (by have := hV.b1; omega) (by omega) (by have := hV.pl; omega)).mono ?_
   rintro e w' (⟨hb, rfl, v', p', hi, hg, hs⟩ | ⟨hb0, hb1, ⟨T, u, rfl, he⟩, v', hi, hg, hs⟩)
   ·refine ⟨v', p', _, hi, hs, .inr ⟨_, rfl, hg, hV.dn, ?_, ?_, ?_, ?_, ?_⟩⟩
    ·show -1 ≤ Blb.bud s.d.budget n
     unfold Blb.bud
     have := hV.b0
     split <;> omega
    ·show Blb.bud s.d.budget n ≤ 20
     unfold Blb.bud
     have := hV.b1
     split <;> omega
    ·show (s.d.soft ++ Blb.pgs t (a : Int) n).length ≤ _
     rw [List.length_append, Blb.pgs_length]
     omega
    ·have := hV.ge
     show s.gen ≤ _
     omega
    ·rw [List.length_append, List.length_singleton]
     have := hV.pl
     omega
   ·refine ⟨v', p, _, hi, hs, .inl ⟨T, u, rfl, ⟨10, he, by decide⟩, hg, hV.dn, ?_, ?_, ?_, ?_, ?_⟩⟩
    ·show (-1 : Int) ≤ 0
     decide
    ·show (0 : Int) ≤ 20
     decide
    ·show (s.d.soft ++ Blb.pgs t (a : Int) s.d.budget.toNat).length ≤ _
     rw [List.length_append, Blb.pgs_length]
     omega
    ·have := hV.ge
     show s.gen ≤ _
     omega
    ·have := hV.pl
     omega
  ·refine (Put_no Z R M H v p o (withM rs) s t (n : Int) 0 w h (hV.g.ok (by have := hV.pl; omega)) (Lib.hid hpg) (by omega) (Lib.hid h1)).mono ?_
   rintro e w' ⟨T, u, rfl, he, hd⟩
   exact ⟨v, p, s, h.out.on hd, Stp.of_below hd, .inl ⟨T, u, rfl, ⟨9, he, by decide⟩, hV.more (by omega)⟩⟩
 ·refine (Put_size Z R M H v p o (withM rs) s t 0 w h (Lib.hid (by unfold Blb.pagesV; by_cases h0 : (t.size : Int) < 1; rw [if_pos h0]; rw [if_neg h0, if_pos (by omega)])) rfl).mono ?_
  rintro e w' ⟨T, u, rfl, he, hd⟩
  exact ⟨v, p, s, h.out.on hd, Stp.of_below hd, .inl ⟨T, u, rfl, ⟨15, he, by decide⟩, hV.more (by omega)⟩⟩
theorem G.all (h : G N s rs ts pt fs) (i : Nat) (r : Rf) (t : ByteArray) (hr : (rs ++ pt)[i]? = some r) (ht : (ts ++ fs)[i]? = some t) : ∃ n, Txt s.d r t n := by
 rw [List.getElem?_append] at hr ht
 rw [h.tl] at ht
 by_cases hi : i < rs.length
 ·rw [if_pos hi] at hr ht
  exact h.read i r t hr ht
 ·rw [if_neg hi] at hr ht
  exact h.fr _ r t hr ht
theorem G.cut (h : G N s rs ts pt fs) (D : Nat) : (∀ r ∈ ((rs ++ pt).drop D).take 8, r ∈ rs ++ pt) ∧ (((rs ++ pt).drop D).take 8).Pairwise Ap ∧ (((rs ++ pt).drop D).take 8).length ≤ 8 ∧ (((ts ++ fs).drop D).take (((rs ++ pt).drop D).take 8).length).length = (((rs ++ pt).drop D).take 8).length ∧ ∀ (i : Nat) (r : Rf) (t : ByteArray), (((rs ++ pt).drop D).take 8)[i]? = some r → (((ts ++ fs).drop D).take (((rs ++ pt).drop D).take 8).length)[i]? = some t → ∃ n, Txt s.d r t n := by
 have hs : (((rs ++ pt).drop D).take 8).Sublist (rs ++ pt) := (List.take_sublist _ _).trans (List.drop_sublist _ _)
 have hl : (ts ++ fs).length = (rs ++ pt).length := by rw [List.length_append, List.length_append, h.tl, h.fl]
 refine ⟨fun r hr => hs.subset hr, pairwise_sub hs h.apR, List.length_take_le _ _, ?_, fun i r t hr ht => ?_⟩
 ·rw [List.length_take, List.length_drop, hl, List.length_take, List.length_drop]
  omega
 ·rw [List.getElem?_take] at hr ht
  split at hr
  ·split at ht
   ·rw [List.getElem?_drop] at hr ht
    exact h.all _ r t hr ht
   ·cases ht
  ·cases hr
theorem switch_l (Z R M H : Nat) (v p : Value) (o o1 : Mni.Loc) (rs2 : List Rf) (ts2 : List ByteArray) (k : Nat) (w : World) (h : Hid (IsS w ⟨Z, R, M, H, v, p⟩ o (withM rs) s)) (hV : Hid (Vl N s rs ts pt fs k)) (hk : k ≤ 29) (hsub : ∀ r ∈ rs2, r ∈ rs ++ pt) (hap : rs2.Pairwise Ap) (h8 : rs2.length ≤ 8) (htl : ts2.length = rs2.length) (htx : ∀ (i : Nat) (r : Rf) (t : ByteArray), rs2[i]? = some r → ts2[i]? = some t → ∃ n, Txt s.d r t n) (HA : Hid (ManOut w ⟨Z, R, M, H, v, p⟩ o1 (withM rs2))) :
  Calls Tryz.prog 12 #[.pointer (some ⟨Z, 0, none⟩), .agg (Loc.a o1 (withM rs2))] w fun e w' => (e = .returned .nilIface ∧ ∃ o2 s', IsS w' ⟨Z, R, M, H, .slice none 0 0, .slice none 0 0⟩ o2 (withM rs2) s' ∧ s'.gen = s.gen + 1 ∧ Vl N s' rs2 ts2 [] [] (k + 1) ∧ Stp w ⟨Z, R, M, H, v, p⟩ w' ⟨Z, R, M, H, .slice none 0 0, .slice none 0 0⟩) ∨
   (∃ T u, e = .returned (.iface T u) ∧ (∃ n, IsErr w' (.iface T u) n ∧ n ≠ 0) ∧ ∃ v' p' s', s'.gen = s.gen ∧ IsS w' ⟨Z, R, M, H, v', p'⟩ o (withM rs) s' ∧ Vl N s' rs ts pt fs (k + 1) ∧ Stp w ⟨Z, R, M, H, v, p⟩ w' ⟨Z, R, M, H, v', p'⟩) := by
 have hV := hV.out
 obtain ⟨m1, m2, m3, m4⟩ := hV.g.man hsub hap h8
 obtain ⟨t, ht⟩ : ∃ t, layM (withM rs2) = t := ⟨_, rfl⟩
 rw [ht] at m3 m4
 obtain ⟨n, hn⟩ : ∃ n, (t.size + 63) / 64 = n := ⟨_, rfl⟩
 have hpg := Blb.pages_of t m3 (by omega)
 rw [hn] at hpg
 have hso := hV.so
 have hge := hV.ge
 rcases hV.g.find n (by omega) with ⟨a, h1, h3, h4, _⟩ | ⟨h1, _⟩
 ·refine (switch_g Z R M H v p o o1 rs2 ts2 t n a w h (Lib.hid hV.g) hsub hap h8 htl htx HA ht hn h1 h3 h4 hV.dn hV.b0 (by have := hV.b1; omega) (by omega) (by omega) (by have := hV.pl; omega)).mono ?_
  rintro e w' (⟨hb, rfl, o2, hi, hg, hs⟩ | ⟨hb0, hb1, ⟨T, u, rfl, he⟩, v', p', d', hi, hg, e1, e2, e3, hs⟩)
  ·refine .inl ⟨rfl, o2, _, hi, rfl, ⟨hg, hV.dn, ?_, ?_, Nat.zero_le _, ?_, Nat.zero_le _⟩, hs⟩
   ·show -1 ≤ max (Blb.bud s.d.budget n - 1) (-1)
    omega
   ·show max (Blb.bud s.d.budget n - 1) (-1) ≤ 20
    unfold Blb.bud
    have := hV.b1
    split <;> omega
   ·show s.gen + 1 ≤ _
    omega
  ·refine .inr ⟨T, u, rfl, ⟨10, he, by decide⟩, v', p', { s with d := d' }, rfl, hi, ⟨hg, by show d'.down = false; rw [e1]; exact hV.dn, ?_, ?_, ?_, ?_, by have := hV.pl; omega⟩, hs⟩
   ·show -1 ≤ d'.budget
    rw [e2]
    decide
   ·show d'.budget ≤ 20
    rw [e2]
    decide
   ·show d'.soft.length ≤ _
    omega
   ·show s.gen ≤ _
    omega
 ·have hz := hV.g.size
  refine (Switch_n Z R M H v p o (withM rs) s o1 (withM rs2) t n 0 w h (hV.g.ok (by have := hV.pl; omega)) (by omega) rfl (by show rs2.length ≤ 1000000; omega) (by show (upTo rs2.length).length ≤ 1000000; rw [upTo_len]; omega) HA (Lib.hid (by rw [hz]; exact m1)) (Lib.hid m2) (Lib.hid ht) (Lib.hid hpg) (by omega) (Lib.hid h1)).mono ?_
  rintro e w' ⟨T, u, rfl, he, hd⟩
  exact .inr ⟨T, u, rfl, ⟨9, he, by decide⟩, v, p, s, rfl, h.out.on hd, hV.more (by omega), Stp.of_below hd⟩
theorem putH_keys {L : List (Rf × Int)} {k : Rf} {g : Int} {x : Rf} (h : x ∈ (putH L k g).map (·.1)) : x = k ∨ x ∈ L.map (·.1) := by
 unfold putH at h
 split at h
 ·rw [List.map_append, List.mem_append] at h
  rcases h with h | h
  ·exact .inr h
  ·simp at h
   exact .inl h
 ·rw [List.mem_map] at h
  obtain ⟨y, hy, rfl⟩ := h
  rcases List.mem_or_eq_of_mem_set hy with h | h
  ·exact .inr (List.mem_map_of_mem h)
  ·rw [h]; exact .inl rfl
theorem delH_keys {L : List (Rf × Int)} {k : Rf} {x : Rf} (h : x ∈ (delH L k).map (·.1)) : x ∈ L.map (·.1) := by
 unfold delH at h
 split at h
 ·exact h
 ·rw [List.mem_map] at h ⊢
  obtain ⟨y, hy, rfl⟩ := h
  exact ⟨y, List.mem_of_mem_eraseIdx hy, rfl⟩
theorem hold_keysA {l : List Rf} {x : Rf} : ∀ {L : List (Rf × Int)}, x ∈ (l.foldl hold1 L).map (·.1) → x ∈ l ∨ x ∈ L.map (·.1) := by
 induction l with
 | nil => exact fun h => .inr h
 | cons r l ih =>
  intro L h
  rcases ih h with h | h
  ·exact .inl (List.mem_cons_of_mem _ h)
  ·rcases putH_keys h with h | h
   ·exact .inl (h ▸ List.mem_cons_self)
   ·exact .inr h
theorem free_keysA {l : List Rf} {x : Rf} : ∀ {L : List (Rf × Int)}, x ∈ (l.foldl free1 L).map (·.1) → x ∈ l ∨ x ∈ L.map (·.1) := by
 induction l with
 | nil => exact fun h => .inr h
 | cons r l ih =>
  intro L h
  rcases ih h with h | h
  ·exact .inl (List.mem_cons_of_mem _ h)
  ·have h2 : x ∈ (putH L r (wrap64 (getH L r - 1))).map (·.1) := by
    unfold free1 at h
    split at h
    ·exact delH_keys h
    ·exact h
   rcases putH_keys h2 with h | h
   ·exact .inl (h ▸ List.mem_cons_self)
   ·exact .inr h
theorem Vl.held {k : Nat} (h : Vl N s rs ts pt fs k) {l : List Rf} (hl : ∀ r ∈ l, r ∈ rs) (L : List (Rf × Int)) (hL : ∀ x ∈ L.map (·.1), x ∈ l ∨ x ∈ s.held.map (·.1)) : Vl N { s with held := L } rs ts pt fs (k + 1) := by
 refine ⟨h.g.hold L (fun r hr => ?_), h.dn, h.b0, h.b1, ?_, ?_, ?_⟩
 ·rcases hL r hr with q | q
  ·obtain ⟨t, n, hn⟩ := h.g.mem (List.mem_cons_of_mem _ (List.mem_append_left _ (hl r q)))
   have h0 := hn.x0
   have h1 := hn.x1
   have h2 := h.g.size
   have h3 := h.g.nn
   omega
  ·exact h.g.keys r q
 ·have := h.so
  show s.d.soft.length ≤ _
  omega
 ·have := h.ge
  show s.gen ≤ _
  omega
 ·have := h.pl
  omega
theorem Vl.forget {k : Nat} (h : Vl N s rs ts pt fs k) : Vl N { s with put := [] } rs ts [] [] (k + 1) :=
 ⟨h.g.forget, h.dn, h.b0, h.b1, by have := h.so; show s.d.soft.length ≤ _; omega, by have := h.ge; show s.gen ≤ _; omega, Nat.zero_le _⟩
theorem Vl.bud {k : Nat} (h : Vl N s rs ts pt fs k) (b : Int) (h0 : 0 ≤ b) (h1 : b ≤ 20) : Vl N { s with d := { s.d with budget := max b (-1) } } rs ts pt fs (k + 1) :=
 ⟨h.g.bud _ _, h.dn, by show -1 ≤ max b (-1); omega, by show max b (-1) ≤ 20; omega, by have := h.so; show s.d.soft.length ≤ _; omega, by have := h.ge; show s.gen ≤ _; omega, by have := h.pl; omega⟩
theorem Vl.crash {k : Nat} (h : Vl N s rs ts pt fs k) (mask : Nat) : Vl N (sO { s.d with firm := stl mask s.d.firm s.d.soft 0, soft := [], down := false, budget := -1 } ⟨s.gen, s.own.f0, s.own.f1, s.own.f2⟩) rs ts [] [] (k + 1) :=
 ⟨h.g.crash mask (-1) false, rfl, by show (-1 : Int) ≤ -1; decide, by show (-1 : Int) ≤ 20; decide, Nat.zero_le _, by have := h.ge; show s.gen ≤ _; omega, Nat.zero_le _⟩
end Go.Proofs.YtaodgnladjafoaaGreatDoor.Sto
