/- The closure that Reader.Num hands to safe: the number is read, and laid into the variable n. -/
import Derived.Test.YtnpndfcghfoofaaDoorReader2
set_option linter.unusedVariables false
namespace Go.Proofs.YtnpndfcghfoofaaDoor.Rdr
open Go.RowKit Go.Proofs.YtnpndfcghfoofaaDoorW.PrintWords Go.Proofs.YtnpndfcghfoofaaDoorW.PrintLast Go.Proofs.YtnpndfcghfoofaaDoorW.PrintMore Go.Proofs.YtnpndfcghfoofaaDoor.CdM
theorem But.cell {w w' : World} {R : Nat} (h : But w w' R) {a : Addr} {v : Value} (hc : w.cell? a = some v) (hn : a.block ≠ R) : w'.cell? a = some v := by
  have hl := World.block_lt_of_cell? w a hc
  have hb := h.2.2 a.block hl hn (by simp)
  rw [← hc]; simp [World.cell?, hb]
theorem But.frozen {w w' : World} {R : Nat} (h : But w w' R) {a : Addr} {v : Value} (hc : w.cell? a = some v) (hf : w.frozen? a = false) (hn : a.block ≠ R) : w'.frozen? a = false := by
  have hl := World.block_lt_of_cell? w a hc
  have hb := h.2.2 a.block hl hn (by simp)
  rw [← hf]; simp [World.frozen?, hb]
set_option maxHeartbeats 4000000 in
set_option maxRecDepth 100000 in
theorem num1_c (rc mc nc : Addr) (R : Nat) (s : ByteArray) (p x : Nat) (most old : Int) (w : World) (hr : Hid (w.cell? rc = some (.pointer (some ⟨R, 0, none⟩)))) (hm : Hid (w.cell? mc = some (.int .i64 most))) (hn : Hid (w.cell? nc = some (.int .i64 old))) (hf : Hid (w.frozen? nc = false))
    (nr : rc.block ≠ R) (nm : mc.block ≠ R) (nn : nc.block ≠ R) (h : Hid (Has w R s p)) (hst : Hid (Stands s p x)) (hs : s.size ≤ 4611686018427387904) (hx : x ≤ 4611686018427387904) (hxm : (x : Int) ≤ most) :
    Calls Tryd.prog 22 #[.pointer (some rc), .pointer (some mc), .pointer (some nc)] w fun ev w' => ev = .returned (.tuple #[]) ∧ ∃ w1, But w w1 R ∧ Has w1 R s (p + (num x).length) ∧ w' = w1.setCell nc (.int .i64 (x : Int)) := by
  have hr' := hr.out
  have c1 : decide ((x : Int) ≤ most) = true := decide_eq_true hxm
  go_enter Tryd.func22, Tryd.ntmps22
  go_wp2_with fail
  refine (number_c R s p x _ h hst hs hx).mono ?_
  rintro e w1 ⟨rfl, hh, hb⟩
  have hm1 := hb.cell hm.out nm
  have hn1 := hb.cell hn.out nn
  have hf1 := hb.frozen hn.out hf.out nn
  have HH := Lib.hid hh
  have HB := Lib.hid hb
  clear hh hb
  go_wp2_with fail
  refine (must_c _).mono ?_
  rintro e w2 ⟨rfl, rfl⟩
  go_wp2_with fail
  go_end0
  exact ⟨rfl, _, HB.out, HH.out, rfl⟩
end Go.Proofs.YtnpndfcghfoofaaDoor.Rdr
