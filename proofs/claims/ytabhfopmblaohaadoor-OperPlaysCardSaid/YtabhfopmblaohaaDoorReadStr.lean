/- Reader.Str at any bytes: a text, or an error. -/
import Derived.Test.YtabhfopmblaohaaDoorReadAny
set_option linter.unusedVariables false
set_option linter.unusedSimpArgs false
namespace Go.Proofs.YtabhfopmblaohaaDoor.Rdr
open Go.RowKit Go.Proofs.YtabhfopmblaohaaDoorW.PrintWords Go.Proofs.YtabhfopmblaohaaDoorW.PrintLast Go.Proofs.YtabhfopmblaohaaDoorW.PrintMore Go.Proofs.YtabhfopmblaohaaDoor.CdM Go.Proofs.YtabhfopmblaohaaDoor.Md
open Go.Proofs.YtabhfopmblaohaaDoor.Err (Laid IsErr code_nil Chain at_some at_nil)
theorem stands_le {s : ByteArray} {q y : Nat} (h : Stands s q y) : q + (num y).length ≤ s.size := by
  have hp := num_pos y
  obtain ⟨h1, _⟩ := h ((num y).length - 1) (by omega)
  omega
/-- a text of so many bytes at most stands there -/
def StrTo (s : ByteArray) (p : Nat) (most : Int) (x : Nat) : Prop := x ≤ 4611686018427387904 ∧ (x : Int) ≤ most ∧ Stands s p x ∧ p + (num x).length + x ≤ s.size
def NoStrTo (s : ByteArray) (p : Nat) (most : Int) : Prop := ∀ x : Nat, ¬ StrTo s p most x
set_option maxHeartbeats 4000000 in
set_option maxRecDepth 100000 in
theorem str1_no (rc mc nc : Addr) (R : Nat) (s : ByteArray) (p : Nat) (most : Int) (old : ByteArray) (w : World) (hr : Hid (w.cell? rc = some (.pointer (some ⟨R, 0, none⟩)))) (hm : Hid (w.cell? mc = some (.int .i64 most))) (hn : Hid (w.cell? nc = some (.string old))) (hf : Hid (w.frozen? nc = false))
    (nr : rc.block ≠ R) (nm : mc.block ≠ R) (nn : nc.block ≠ R) (h : Hid (Has w R s p)) (hno : Hid (NoStrTo s p most)) (hs : s.size ≤ 4611686018427387904) :
    Calls Tryd.prog 48 #[.pointer (some rc), .pointer (some mc), .pointer (some nc)] w fun ev w' => ev = .panicked [{ v := formV, recovered := false }] ∧ (∃ q, Has w' R s q) ∧ Mod (· = R) w w' := by
  have hr' := hr.out
  by_cases hex : ∃ x : Nat, x ≤ 4611686018427387904 ∧ Stands s p x
  · obtain ⟨x, hx, hst⟩ := hex
    have HSt := Lib.hid hst
    by_cases hxm : (x : Int) ≤ most
    · have c1 : decide ((x : Int) ≤ most) = true := decide_eq_true hxm
      have hle := stands_le hst
      have hlt : ¬ p + (num x).length + x ≤ s.size := fun e => hno.out x ⟨hx, hxm, hst, e⟩
      obtain ⟨q, hq⟩ : ∃ q, p + (num x).length = q := ⟨_, rfl⟩
      rw [hq] at hle hlt
      have HQ := Lib.hid hq
      have c2 : decide ((x : Int) ≤ (s.size : Int) - (q : Int)) = false := decide_eq_false (by omega)
      clear hst hxm hlt hq
      go_enter Tryd.func48, Tryd.ntmps48
      go_wp2_with fail
      refine (number_c R s p x _ h HSt hs hx).mono ?_
      rintro e w1 ⟨rfl, hh, hb⟩
      rw [HQ.out] at hh
      have hm1 := hb.cell hm.out nm
      have hr1 := hb.cell hr.out nr
      have HH := Lib.hid hh
      have HB := Lib.hid hb
      clear hh hb
      go_wp2_with fail
      refine (left_c R s q w1 HH hle hs).mono ?_
      rintro e w2 ⟨rfl, hhe, hb2⟩
      have HH2 := Lib.hid (Has.on HH.out hhe)
      have HM2 := Lib.hid (HB.out.mod.on_below hb2 (Nat.le_refl _))
      clear hhe hb2 hr' hm1 hr1
      go_wp2_with fail
      refine (must_no _).mono ?_
      rintro e w3 ⟨rfl, rfl⟩
      exact ⟨rfl, rfl, ⟨_, HH2.out⟩, HM2.out⟩
    · have c1 : decide ((x : Int) ≤ most) = false := decide_eq_false hxm
      clear hst hxm
      go_enter Tryd.func48, Tryd.ntmps48
      go_wp2_with fail
      refine (number_c R s p x _ h HSt hs hx).mono ?_
      rintro e w1 ⟨rfl, hh, hb⟩
      have hm1 := hb.cell hm.out nm
      have HH := Lib.hid hh
      have HB := Lib.hid hb
      clear hh hb
      go_wp2_with fail
      refine (must_no _).mono ?_
      rintro e w2 ⟨rfl, rfl⟩
      exact ⟨rfl, rfl, ⟨_, HH.out⟩, HB.out.mod⟩
  · have HNo := Lib.hid (show NoNum s p from fun y hy hst => hex ⟨y, hy, hst⟩)
    clear hex
    go_enter Tryd.func48, Tryd.ntmps48
    go_wp2_with fail
    refine (number_no R s p _ h HNo hs).mono ?_
    rintro e w1 ⟨rfl, hh, hb⟩
    exact ⟨rfl, rfl, hh, hb.mod⟩
set_option maxHeartbeats 4000000 in
set_option maxRecDepth 100000 in
/-- Reader.Str at bytes that are no text up to most: an error, nothing is read -/
theorem str_no (R : Nat) (s : ByteArray) (p : Nat) (most : Int) (w : World) (h : Hid (Has w R s p)) (hno : Hid (NoStrTo s p most)) (hs : s.size ≤ 4611686018427387904) :
    Calls Tryd.prog 32 #[.pointer (some ⟨R, 0, none⟩), .int .i64 most] w fun ev w' => (∃ T x, ev = .returned (.tuple #[.string ByteArray.empty, .iface T x]) ∧ IsErr w' (.iface T x) 13) ∧ Mod (· = R) w w' ∧ Has w' R s p := by
  have hmf : ∀ (fn : Fn) (first cap : Array Value) (w : World), (Instr.makeFunc fn first cap).run Tryd.prog w = .ok (.func fn first cap) w := fun _ _ _ _ => rfl
  have hRl : R < w.heap.size := Err.lt_of_block h.out
  go_enter Tryd.func32, Tryd.ntmps32
  go_wp2_with fail
  have hH3 : Has (W3 w R most (.string ByteArray.empty) 9) R s p := ((w3_below w R most _ _).block R hRl).trans h.out
  refine (safe_no 48 _ R s p (W3 w R most (.string ByteArray.empty) 9) (Lib.hid hH3) (fun _ => by kernel_rfl) ?_).mono ?_
  · intro w4 hb
    have e1 := hb.cell (p := ⟨w.heap.size, 0, none⟩) (by rw [w3_size]; simp)
    have e2 := hb.cell (p := ⟨w.heap.size + 1, 0, none⟩) (by rw [w3_size]; simp)
    have e3 := hb.cell (p := ⟨w.heap.size + 1 + 1, 0, none⟩) (by rw [w3_size]; simp)
    have e4 := hb.frozen (p := ⟨w.heap.size + 1 + 1, 0, none⟩) (by rw [w3_size]; simp)
    rw [w3_r] at e1; rw [w3_m] at e2; rw [w3_n] at e3; rw [w3_f] at e4
    exact str1_no ⟨w.heap.size, 0, none⟩ ⟨w.heap.size + 1, 0, none⟩ ⟨w.heap.size + 1 + 1, 0, none⟩ R s p most ByteArray.empty w4 (Lib.hid e1) (Lib.hid e2) (Lib.hid e3) (Lib.hid e4) (by simp; omega) (by simp; omega) (by simp; omega) (Lib.hid ((hb.block R (by rw [w3_size]; omega)).trans hH3)) hno hs
  · rintro e w' ⟨⟨T, x, rfl, hi⟩, hm, hh⟩
    have hn := (Mod.cell hm (w3_n w R most (.string ByteArray.empty) 9) (by simp; omega))
    have HM := Lib.hid (Mod.trans (S := (· = R)) (Mod.of_below (w3_below w R most (.string ByteArray.empty) 9) (Nat.le_refl _)) hm (fun i hi e => e))
    have HH := Lib.hid hh
    have HI := Lib.hid hi
    clear hm hh hi hH3 h
    go_wp2_with fail
    repeat (go_quiet (fail); try go_wp2)
    go_ret2
    exact ⟨⟨T, x, rfl, HI.out⟩, HM.out, HH.out⟩
/-- what Str answers at p: the text, the error, where the reader stands then -/
def StrAt (w : World) (s : ByteArray) (p : Nat) (most : Int) (t : ByteArray) (e : Value) (q : Nat) : Prop :=
  (∃ x : Nat, StrTo s p most x ∧ t = s.extract (p + (num x).length) q ∧ e = .nilIface ∧ q = p + (num x).length + x) ∨ (NoStrTo s p most ∧ t = ByteArray.empty ∧ (∃ T x, e = .iface T x ∧ IsErr w e 13) ∧ q = p)
theorem str_any (R : Nat) (s : ByteArray) (p : Nat) (most : Int) (w : World) (h : Hid (Has w R s p)) (hs : s.size ≤ 4611686018427387904) :
    Calls Tryd.prog 32 #[.pointer (some ⟨R, 0, none⟩), .int .i64 most] w fun ev w' => ∃ t e q, ev = .returned (.tuple #[.string t, e]) ∧ StrAt w' s p most t e q ∧ Mod (· = R) w w' ∧ Has w' R s q := by
  by_cases hex : ∃ x : Nat, StrTo s p most x
  · obtain ⟨x, hx⟩ := hex
    refine (str_c R s p x most w h (Lib.hid hx.2.2.1) hs hx.1 hx.2.1 _ (Lib.hid rfl) _ (Lib.hid rfl) hx.2.2.2).mono ?_
    rintro e w' ⟨rfl, hm, hh⟩
    exact ⟨_, _, _, rfl, .inl ⟨x, hx, rfl, rfl, rfl⟩, hm, hh⟩
  · have hno : NoStrTo s p most := fun x hx => hex ⟨x, hx⟩
    refine (str_no R s p most w h (Lib.hid hno) hs).mono ?_
    rintro e w' ⟨⟨T, x, rfl, hi⟩, hm, hh⟩
    exact ⟨_, _, _, rfl, .inr ⟨hno, rfl, ⟨T, x, rfl, hi⟩, rfl⟩, hm, hh⟩
theorem StrAt.on {w w' : World} {s : ByteArray} {p : Nat} {most : Int} {t : ByteArray} {e : Value} {q : Nat} (h : StrAt w s p most t e q) (hb : ∀ T x, e = .iface T x → IsErr w e 13 → IsErr w' e 13) : StrAt w' s p most t e q := by
  rcases h with h | ⟨h1, h2, ⟨T, x, h3, h4⟩, h5⟩
  · exact .inl h
  · exact .inr ⟨h1, h2, ⟨T, x, h3, hb T x h3 h4⟩, h5⟩
end Go.Proofs.YtabhfopmblaohaaDoor.Rdr
