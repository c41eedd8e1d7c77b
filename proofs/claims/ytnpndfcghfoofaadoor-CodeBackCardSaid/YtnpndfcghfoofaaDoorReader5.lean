/- Reader.Num and Reader.Str at bytes that stand for a number, for a text: it is read. -/
import Derived.Test.YtnpndfcghfoofaaDoorReader4
set_option linter.unusedVariables false
namespace Go.Proofs.YtnpndfcghfoofaaDoor.Rdr
open Go.RowKit Go.Proofs.YtnpndfcghfoofaaDoorW.PrintWords Go.Proofs.YtnpndfcghfoofaaDoorW.PrintLast Go.Proofs.YtnpndfcghfoofaaDoorW.PrintMore Go.Proofs.YtnpndfcghfoofaaDoor.CdM Go.Proofs.YtnpndfcghfoofaaDoor.Md
/-- the three variables that Num and Str lay, a world behind them -/
def W3 (w : World) (R : Nat) (most : Int) (v : Value) (t : TypeId) : World := ((w.alloc (.cells #[.pointer (some ⟨R, 0, none⟩)] 38)).alloc (.cells #[.int .i64 most] 3)).alloc (.cells #[v] t)
theorem w3_below (w : World) (R : Nat) (most : Int) (v : Value) (t : TypeId) : Below w.heap.size w (W3 w R most v t) := (((Below.refl _ _).alloc (Nat.le_refl _) _).alloc (by simp) _).alloc (by simp; omega) _
theorem w3_size (w : World) (R : Nat) (most : Int) (v : Value) (t : TypeId) : (W3 w R most v t).heap.size = w.heap.size + 3 := by simp [W3]
theorem w3_r (w : World) (R : Nat) (most : Int) (v : Value) (t : TypeId) : (W3 w R most v t).cell? ⟨w.heap.size, 0, none⟩ = some (.pointer (some ⟨R, 0, none⟩)) := by
  unfold W3; rw [World.cell?_alloc_lt _ _ _ (by simp; omega), World.cell?_alloc_lt _ _ _ (by simp), World.cell?_alloc_at _ _ _ _ (by simp)]; rfl
theorem w3_m (w : World) (R : Nat) (most : Int) (v : Value) (t : TypeId) : (W3 w R most v t).cell? ⟨w.heap.size + 1, 0, none⟩ = some (.int .i64 most) := by
  unfold W3; rw [World.cell?_alloc_lt _ _ _ (by simp), World.cell?_alloc_at _ _ _ _ (by simp)]; rfl
theorem w3_n (w : World) (R : Nat) (most : Int) (v : Value) (t : TypeId) : (W3 w R most v t).cell? ⟨w.heap.size + 1 + 1, 0, none⟩ = some v := by
  unfold W3; rw [World.cell?_alloc_at _ _ _ _ (by simp)]; rfl
theorem w3_f (w : World) (R : Nat) (most : Int) (v : Value) (t : TypeId) : (W3 w R most v t).frozen? ⟨w.heap.size + 1 + 1, 0, none⟩ = false := by
  have e : (W3 w R most v t).heap[w.heap.size + 1 + 1]? = some (.cells #[v] t (0, 0)) := by
    have z := Go.Deep.blk_alloc_new ((w.alloc (.cells #[.pointer (some ⟨R, 0, none⟩)] 38)).alloc (.cells #[.int .i64 most] 3)) (.cells #[v] t)
    rw [show ((w.alloc (.cells #[.pointer (some ⟨R, 0, none⟩)] 38)).alloc (.cells #[.int .i64 most] 3)).heap.size = w.heap.size + 1 + 1 by simp] at z
    exact z
  unfold World.frozen?
  rw [e]; simp
set_option maxHeartbeats 4000000 in
set_option maxRecDepth 100000 in
theorem num_c (R : Nat) (s : ByteArray) (p x : Nat) (most : Int) (w : World) (h : Hid (Has w R s p)) (hst : Hid (Stands s p x)) (hs : s.size ≤ 4611686018427387904) (hx : x ≤ 4611686018427387904) (hxm : (x : Int) ≤ most) :
    Calls Tryd.prog 16 #[.pointer (some ⟨R, 0, none⟩), .int .i64 most] w fun ev w' => ev = .returned (.tuple #[.int .i64 (x : Int), .nilIface]) ∧ Mod (· = R) w w' ∧ Has w' R s (p + (num x).length) := by
  have hmf : ∀ (fn : Fn) (first cap : Array Value) (w : World), (Instr.makeFunc fn first cap).run Tryd.prog w = .ok (.func fn first cap) w := fun _ _ _ _ => rfl
  have hRl : R < w.heap.size := Err.lt_of_block h.out
  go_enter Tryd.func16, Tryd.ntmps16
  go_wp2_with fail
  have hH3 : Has (W3 w R most (.int .i64 0) 3) R s p := ((w3_below w R most _ _).block R hRl).trans h.out
  refine (safe_any 22 _ R s p (p + (num x).length) ⟨w.heap.size + 1 + 1, 0, none⟩ (.int .i64 (x : Int)) (W3 w R most (.int .i64 0) 3) (Lib.hid hH3) (by rw [w3_size]; simp) (by simp; omega) (fun _ => by kernel_rfl) ?_).mono ?_
  · intro w4 hb
    have e1 := hb.cell (p := ⟨w.heap.size, 0, none⟩) (by rw [w3_size]; simp)
    have e2 := hb.cell (p := ⟨w.heap.size + 1, 0, none⟩) (by rw [w3_size]; simp)
    have e3 := hb.cell (p := ⟨w.heap.size + 1 + 1, 0, none⟩) (by rw [w3_size]; simp)
    have e4 := hb.frozen (p := ⟨w.heap.size + 1 + 1, 0, none⟩) (by rw [w3_size]; simp)
    rw [w3_r] at e1; rw [w3_m] at e2; rw [w3_n] at e3; rw [w3_f] at e4
    refine (num1_c ⟨w.heap.size, 0, none⟩ ⟨w.heap.size + 1, 0, none⟩ ⟨w.heap.size + 1 + 1, 0, none⟩ R s p x most 0 w4 (Lib.hid e1) (Lib.hid e2) (Lib.hid e3) (Lib.hid e4) (by simp; omega) (by simp; omega) (by simp; omega) (Lib.hid ((hb.block R (by rw [w3_size]; omega)).trans hH3)) hst hs hx hxm).mono ?_
    rintro e w' ⟨rfl, w5, hb5, hh5, rfl⟩
    refine ⟨rfl, Mod.set (hb5.mod.mono (fun _ _ h => .inl h)) _ _ (.inl (.inr rfl)), hh5.mod (Mod.set (S := (· = w.heap.size + 1 + 1)) (Mod.refl _ _) _ _ (.inl rfl)) (by omega), ?_⟩
    exact World.cell?_setCell_same _ _ _ (hb5.cell e3 (by simp; omega))
  · rintro e w' ⟨rfl, hm, hh, hv⟩
    have HM := Lib.hid (Mod.trans (S := (· = R)) (Mod.of_below (w3_below w R most (.int .i64 0) 3) (Nat.le_refl _)) hm (by rintro i hi (e | e); exact e; exact absurd e (by show ¬ (i = w.heap.size + 1 + 1); omega)))
    have HH := Lib.hid hh
    clear hm hh hH3 h
    go_wp2_with fail
    repeat (go_quiet (fail); try go_wp2)
    go_ret2
    exact ⟨rfl, HM.out, HH.out⟩
theorem keep3 {w : World} {nc rc : Addr} {R : Nat} {s : ByteArray} {q : Int} (v : Value) (nn : nc.block ≠ R) (rn : rc ≠ nc)
    (h : w.cell? ⟨R, 0, none⟩ = some (.string s) ∧ w.cell? ⟨R, 1, none⟩ = some (.int .i64 q) ∧ w.cell? rc = some (.pointer (some ⟨R, 0, none⟩))) :
    (w.setCell nc v).drew.cell? ⟨R, 0, none⟩ = some (.string s) ∧ (w.setCell nc v).drew.cell? ⟨R, 1, none⟩ = some (.int .i64 q) ∧ (w.setCell nc v).drew.cell? rc = some (.pointer (some ⟨R, 0, none⟩)) := by
  refine ⟨(World.cell?_setCell_other _ _ _ _ ?_).trans h.1, (World.cell?_setCell_other _ _ _ _ ?_).trans h.2.1, (World.cell?_setCell_other _ _ _ _ ?_).trans h.2.2⟩
  · intro e; exact nn (congrArg Addr.block e)
  · intro e; exact nn (congrArg Addr.block e)
  · exact fun e => rn e.symm
set_option maxHeartbeats 4000000 in
set_option maxRecDepth 100000 in
theorem str1_c (rc mc nc : Addr) (R : Nat) (s : ByteArray) (p x : Nat) (most : Int) (old : ByteArray) (w : World) (hr : Hid (w.cell? rc = some (.pointer (some ⟨R, 0, none⟩)))) (hm : Hid (w.cell? mc = some (.int .i64 most))) (hn : Hid (w.cell? nc = some (.string old))) (hf : Hid (w.frozen? nc = false))
    (nr : rc.block ≠ R) (nm : mc.block ≠ R) (nn : nc.block ≠ R) (rn : rc ≠ nc) (h : Hid (Has w R s p)) (hst : Hid (Stands s p x)) (hs : s.size ≤ 4611686018427387904) (hx : x ≤ 4611686018427387904) (hxm : (x : Int) ≤ most) (q : Nat) (hq : Hid (q = p + (num x).length)) (q2 : Nat) (hq2 : Hid (q2 = q + x)) (hle : q2 ≤ s.size) :
    Calls Tryd.prog 25 #[.pointer (some rc), .pointer (some mc), .pointer (some nc)] w fun ev w' => ev = .returned (.tuple #[]) ∧ Mod (fun i => i = R ∨ i = nc.block) w w' ∧ Has w' R s q2 ∧ w'.cell? nc = some (.string (s.extract q q2)) := by
  have hr' := hr.out
  have c1 : decide ((x : Int) ≤ most) = true := decide_eq_true hxm
  go_enter Tryd.func25, Tryd.ntmps25
  go_wp2_with fail
  refine (number_c R s p x _ h hst hs hx).mono ?_
  rintro e w1 ⟨rfl, hh, hb⟩
  rw [← hq.out] at hh
  have hm1 := hb.cell hm.out nm
  have hn1 := hb.cell hn.out nn
  have hr1 := hb.cell hr.out nr
  have hf1 := hb.frozen hn.out hf.out nn
  have HH := Lib.hid hh
  have HB := Lib.hid hb
  clear hh hb
  go_wp2_with fail
  have hq2' := hq2.out
  have c2 : decide ((x : Int) ≤ (s.size : Int) - (q : Int)) = true := decide_eq_true (by omega)
  have e1 : IntKind.i64.wrap ((q : Int) + (x : Int)) = (q2 : Int) := by rw [IntWalk.i64_in _ (by omega)]; omega
  have hqs : q ≤ s.size := by omega
  clear hq2'
  refine (left_c R s q w1 HH hqs hs).mono ?_
  rintro e w2 ⟨rfl, hhe, hb2⟩
  have HH2 := Lib.hid (Has.on HH.out hhe)
  have hm2 := (hb2.cell (lt_of hm1)).trans hm1
  have hn2 := (hb2.cell (lt_of hn1)).trans hn1
  have hr2 := (hb2.cell (lt_of hr1)).trans hr1
  have hf2 := (hb2.frozen (lt_of hn1)).trans hf1
  have HM2 := Lib.hid ((HB.out.mod.mono (T := fun i => i = R ∨ i = nc.block) (fun _ _ h => .inl h)).on_below hb2 (Nat.le_refl _))
  clear hhe hb2 hr' hm1 hn1 hr1 hf1
  have h0 := HH2.out.c0
  have h1 := HH2.out.c1
  have hfz := HH2.out.fz
  have hnn : ¬ (R = nc.block) := fun e => nn e.symm
  have HN := Lib.hid (show w2.drew.cell? ⟨R, 0, none⟩ = some (.string s) ∧ w2.drew.cell? ⟨R, 1, none⟩ = some (.int .i64 (q : Int)) ∧ w2.drew.cell? rc = some (.pointer (some ⟨R, 0, none⟩)) from ⟨h0, h1, hr2⟩)
  go_wp2_with fail
  refine (must_c _).mono ?_
  rintro e w3 ⟨rfl, rfl⟩
  have p1 : (0 ≤ (q : Int)) = True := eq_true (by omega)
  have hq2' := hq2.out
  have p2 : ((q : Int) ≤ (q2 : Int)) = True := eq_true (by omega)
  have p3 : ((q2 : Int) ≤ (s.size : Int)) = True := eq_true (by omega)
  clear hq2' hle
  go_wp2_with fail
  go_region_held3 (fun w' => w'.cell? ⟨R, 0, none⟩ = some (.string s) ∧ w'.cell? ⟨R, 1, none⟩ = some (.int .i64 (q : Int)) ∧ w'.cell? rc = some (.pointer (some ⟨R, 0, none⟩)))
    (first | exact HN.out | assumption | exact keep3 _ nn rn HN.out | (refine keep3 _ nn rn ?_; assumption))
    (fail)
  go_wp2_with fail
  go_end0
  have hw1 : Has (w3.setCell nc (.string (s.extract q q2))) R s q := HH2.out.mod (Mod.set (S := (· = nc.block)) (Mod.refl _ _) _ _ (.inl rfl)) hnn
  refine ⟨rfl, ((HM2.out.set nc _ (.inl (.inr rfl))).set ⟨R, 1, none⟩ _ (.inl (.inl rfl))).drew, Has.on (hw1.set _ q2 rfl) rfl, ?_⟩
  refine (World.cell?_setCell_other _ _ _ _ ?_).trans (World.cell?_setCell_same _ _ _ hn2)
  intro e; exact hnn (congrArg Addr.block e)
set_option maxHeartbeats 4000000 in
set_option maxRecDepth 100000 in
theorem str_c (R : Nat) (s : ByteArray) (p x : Nat) (most : Int) (w : World) (h : Hid (Has w R s p)) (hst : Hid (Stands s p x)) (hs : s.size ≤ 4611686018427387904) (hx : x ≤ 4611686018427387904) (hxm : (x : Int) ≤ most) (q : Nat) (hq : Hid (q = p + (num x).length)) (q2 : Nat) (hq2 : Hid (q2 = q + x)) (hle : q2 ≤ s.size) :
    Calls Tryd.prog 17 #[.pointer (some ⟨R, 0, none⟩), .int .i64 most] w fun ev w' => ev = .returned (.tuple #[.string (s.extract q q2), .nilIface]) ∧ Mod (· = R) w w' ∧ Has w' R s q2 := by
  have hmf : ∀ (fn : Fn) (first cap : Array Value) (w : World), (Instr.makeFunc fn first cap).run Tryd.prog w = .ok (.func fn first cap) w := fun _ _ _ _ => rfl
  have hRl : R < w.heap.size := Err.lt_of_block h.out
  go_enter Tryd.func17, Tryd.ntmps17
  go_wp2_with fail
  have hH3 : Has (W3 w R most (.string ByteArray.empty) 9) R s p := ((w3_below w R most _ _).block R hRl).trans h.out
  refine (safe_any 25 _ R s p q2 ⟨w.heap.size + 1 + 1, 0, none⟩ (.string (s.extract q q2)) (W3 w R most (.string ByteArray.empty) 9) (Lib.hid hH3) (by rw [w3_size]; simp) (by simp; omega) (fun _ => by kernel_rfl) ?_).mono ?_
  · intro w4 hb
    have e1 := hb.cell (p := ⟨w.heap.size, 0, none⟩) (by rw [w3_size]; simp)
    have e2 := hb.cell (p := ⟨w.heap.size + 1, 0, none⟩) (by rw [w3_size]; simp)
    have e3 := hb.cell (p := ⟨w.heap.size + 1 + 1, 0, none⟩) (by rw [w3_size]; simp)
    have e4 := hb.frozen (p := ⟨w.heap.size + 1 + 1, 0, none⟩) (by rw [w3_size]; simp)
    rw [w3_r] at e1; rw [w3_m] at e2; rw [w3_n] at e3; rw [w3_f] at e4
    exact str1_c ⟨w.heap.size, 0, none⟩ ⟨w.heap.size + 1, 0, none⟩ ⟨w.heap.size + 1 + 1, 0, none⟩ R s p x most ByteArray.empty w4 (Lib.hid e1) (Lib.hid e2) (Lib.hid e3) (Lib.hid e4) (by simp; omega) (by simp; omega) (by simp; omega) (by simp) (Lib.hid ((hb.block R (by rw [w3_size]; omega)).trans hH3)) hst hs hx hxm q hq q2 hq2 hle
  · rintro e w' ⟨rfl, hm, hh, hv⟩
    have HM := Lib.hid (Mod.trans (S := (· = R)) (Mod.of_below (w3_below w R most (.string ByteArray.empty) 9) (Nat.le_refl _)) hm (by rintro i hi (e | e); exact e; exact absurd e (by show ¬ (i = w.heap.size + 1 + 1); omega)))
    have HH := Lib.hid hh
    clear hm hh hH3 h
    go_wp2_with fail
    repeat (go_quiet (fail); try go_wp2)
    go_ret2
    exact ⟨rfl, HM.out, HH.out⟩
end Go.Proofs.YtnpndfcghfoofaaDoor.Rdr
