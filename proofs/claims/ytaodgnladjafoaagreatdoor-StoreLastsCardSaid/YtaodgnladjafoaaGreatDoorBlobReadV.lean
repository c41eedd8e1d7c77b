/- Words that the proof uses. -/
import Derived.Test.YtaodgnladjafoaaGreatDoorOverV
import Derived.Test.YtaodgnladjafoaaGreatDoorReaderAllV
set_option linter.unusedVariables false
set_option linter.unusedSimpArgs false
namespace Go.Proofs.YtaodgnladjafoaaGreatDoor.Rdr
open Go.RowKit Go.Proofs.YtaodgnladjafoaaGreatDoorW.PrintWords Go.Proofs.YtaodgnladjafoaaGreatDoorW.PrintLast Go.Proofs.YtaodgnladjafoaaGreatDoorW.PrintMore Go.Proofs.YtaodgnladjafoaaGreatDoor.CdM Go.Proofs.YtaodgnladjafoaaGreatDoor.Md
open Go.Proofs.YtaodgnladjafoaaGreatDoor.Err (Laid IsErr code_nil Chain at_some at_nil)
def NumTo (s : ByteArray) (p : Nat) (most : Int) (y : Nat) : Prop := y ≤ 4611686018427387904 ∧ (y : Int) ≤ most ∧ Stands s p y
theorem stands_one {s : ByteArray} {p x y : Nat} (hx : Stands s p x) (hy : Stands s p y) : x = y := by
  have key : ∀ {x y : Nat}, Stands s p x → Stands s p y → (num x).length ≤ (num y).length → x = y := by
    intro x y hx hy hl
    refine num_prefix x y ((num y).drop (num x).length) ?_
    have e : (num y).take (num x).length = num x := by
      apply List.ext_getElem
      · rw [List.length_take]; omega
      · intro j h1 h2
        rw [List.getElem_take]
        obtain ⟨_, g1⟩ := hx j h2
        obtain ⟨_, g2⟩ := hy j (by omega)
        rw [g1] at g2
        rw [List.getD_eq_getElem?_getD, List.getD_eq_getElem?_getD, List.getElem?_eq_getElem h2, List.getElem?_eq_getElem (by omega)] at g2
        simpa using g2.symm
    conv => rhs; rw [← List.take_append_drop (num x).length (num y), e]
  rcases Nat.le_total (num x).length (num y).length with h | h
  · exact key hx hy h
  · exact (key hy hx h).symm
def NumAt (w : World) (s : ByteArray) (p : Nat) (most : Int) (n : Int) (e : Value) (q : Nat) : Prop :=
  (∃ y : Nat, NumTo s p most y ∧ n = (y : Int) ∧ e = .nilIface ∧ q = p + (num y).length) ∨ (NoNumTo s p most ∧ n = 0 ∧ (∃ T x, e = .iface T x ∧ IsErr w e 13) ∧ q = p)
theorem num_any (R : Nat) (s : ByteArray) (p : Nat) (most : Int) (w : World) (h : Hid (Has w R s p)) (hs : s.size ≤ 4611686018427387904) :
    Calls Tryz.prog 91 #[.pointer (some ⟨R, 0, none⟩), .int .i64 most] w fun ev w' => ∃ n e q, ev = .returned (.tuple #[.int .i64 n, e]) ∧ NumAt w' s p most n e q ∧ Mod (· = R) w w' ∧ Has w' R s q := by
  by_cases hex : ∃ y : Nat, NumTo s p most y
  · obtain ⟨y, hy⟩ := hex
    refine (num_c R s p y most w h (Lib.hid hy.2.2) hs hy.1 hy.2.1).mono ?_
    rintro e w' ⟨rfl, hm, hh⟩
    exact ⟨_, _, _, rfl, .inl ⟨y, hy, rfl, rfl, rfl⟩, hm, hh⟩
  · have hno : NoNumTo s p most := fun y h1 h2 h3 => hex ⟨y, h1, h2, h3⟩
    refine (num_no R s p most w h (Lib.hid hno) hs).mono ?_
    rintro e w' ⟨⟨T, x, rfl, hi⟩, hm, hh⟩
    exact ⟨_, _, _, rfl, .inr ⟨hno, rfl, ⟨T, x, rfl, hi⟩, rfl⟩, hm, hh⟩
theorem NumAt.on {w w' : World} {s : ByteArray} {p : Nat} {most n : Int} {e : Value} {q : Nat} (h : NumAt w s p most n e q) (hb : ∀ T x, e = .iface T x → IsErr w e 13 → IsErr w' e 13) : NumAt w' s p most n e q := by
  rcases h with h | ⟨h1, h2, ⟨T, x, h3, h4⟩, h5⟩
  · exact .inl h
  · exact .inr ⟨h1, h2, ⟨T, x, h3, hb T x h3 h4⟩, h5⟩
theorem isErr_has {w w' : World} {v : Value} {n : Int} {R : Nat} {s : ByteArray} {p : Nat} (h : IsErr w v n) (hh : Has w R s p) (k : Mod (· = R) w w') : IsErr w' v n :=
  isErr_mod h k (fun b cs hb (e : b = R) => by unfold Has at hh; rw [e, hh] at hb; simp at hb)
end Go.Proofs.YtaodgnladjafoaaGreatDoor.Rdr
namespace Go.Proofs.YtaodgnladjafoaaGreatDoor.Blb
open Go.Proofs.YtaodgnladjafoaaGreatDoor.AdM (sum)
open Go.RowKit Go.Proofs.YtaodgnladjafoaaGreatDoor.QStoreLasts Go.Proofs.YtaodgnladjafoaaGreatDoorW.PrintWords Go.Proofs.YtaodgnladjafoaaGreatDoorW.PrintLast Go.Proofs.YtaodgnladjafoaaGreatDoorW.PrintMore Go.Proofs.YtaodgnladjafoaaGreatDoor.CdM Go.Proofs.YtaodgnladjafoaaGreatDoor.Md Go.Proofs.YtaodgnladjafoaaGreatDoor.Rdr
open Go.Proofs.YtaodgnladjafoaaGreatDoor.Err (Laid IsErr code_nil Chain at_some at_nil)
def Ev (e : Value) : Prop := e = .nilIface ∨ ∃ T x, e = .iface T x
theorem litE0 (e1 e2 e3 : Value) (h1 : Ev e1) (h2 : Ev e2) (h3 : Ev e3) (W : World) : (Instr.buildSlice 162 3 #[(0, e1), (1, e2), (2, e3)]).run Tryz.prog W = .ok (.slice (some ⟨W.heap.size, 0, none⟩) 3 3) (W.alloc (.cells #[e1, e2, e3] 26 (0, 0))) := by
  rcases h1 with rfl | ⟨T1, x1, rfl⟩ <;> rcases h2 with rfl | ⟨T2, x2, rfl⟩ <;> rcases h3 with rfl | ⟨T3, x3, rfl⟩ <;> kernel_rfl
theorem litE {a : Operand → Value} {o : Oper} {o1 o2 o3 : Operand} {e1 e2 e3 : Value} (ho : o.op = .buildSlice 162 3 #[(0, o1), (1, o2), (2, o3)]) (h1 : a o1 = e1) (h2 : a o2 = e2) (h3 : a o3 = e3) (g1 : Ev e1) (g2 : Ev e2) (g3 : Ev e3) (W : World) : (execOp a o).run Tryz.prog W = .ok (.value (.slice (some ⟨W.heap.size, 0, none⟩) 3 3)) (W.alloc (.cells #[e1, e2, e3] 26 (0, 0))) := by
  have hh := litE0 e1 e2 e3 g1 g2 g3 W
  unfold execOp
  simp only [ho]
  have e : (#[((0 : Nat), o1), (1, o2), (2, o3)] : Array (Nat × Operand)).map (fun (y : Nat × Operand) => (y.1, a y.2)) = #[(0, e1), (1, e2), (2, e3)] := by simp [h1, h2, h3]
  show (Sem.run _ (do let v ← Instr.buildSlice _ 3 (Array.map _ _); _) _) = _
  rw [e, Sem.run_bind, hh]
  rfl
theorem _root_.Go.Proofs.YtaodgnladjafoaaGreatDoor.Rdr.NumAt.ev {w : World} {s : ByteArray} {p : Nat} {most n : Int} {e : Value} {q : Nat} (h : NumAt w s p most n e q) : Ev e := by
  rcases h with ⟨y, _, _, h, _⟩ | ⟨_, _, ⟨T, x, h, _⟩, _⟩
  · exact .inl h
  · exact .inr ⟨T, x, h⟩
def RefAt (w : World) (s : ByteArray) (p : Nat) (v : Value) (e : Value) : Prop :=
  (∃ x y z : Nat, NumTo s p 2048 x ∧ NumTo s (p + (num x).length) 16384 y ∧ NumTo s (p + (num x).length + (num y).length) 4294967295 z ∧ v = .agg (refA x y z) ∧ e = .nilIface) ∨
  ((∀ x y z : Nat, NumTo s p 2048 x → NumTo s (p + (num x).length) 16384 y → ¬ NumTo s (p + (num x).length + (num y).length) 4294967295 z) ∧ v = .agg (refA 0 0 0) ∧ ∃ T u, e = .iface T u ∧ IsErr w e 13)
theorem bread_results (tmps : Array Value) (W : World) (b : Nat) (x y z : Int) (e : Value) (h4 : tmps.getD 2 undef = .pointer (some ⟨b, 0, none⟩)) (h5 : tmps.getD 3 undef = e) (h : W.heap[b]? = some (Obj.cells (refA x y z) 36 (0, 0))) : (results Tryz.f76 tmps).run Tryz.prog W = .ok (.tuple #[.agg (refA x y z), e]) W := by
  have hl : (loadVar 36 ⟨b, 0, none⟩).run Tryz.prog W = .ok (.agg (refA x y z)) W := run_loadVar_row W b 36 36 (refA x y z) (0, 0) _ h Tryz.underlying36 rfl (by kernel_rfl)
  have h4' : tmps[2]?.getD undef = .pointer (some ⟨b, 0, none⟩) := by simpa using h4
  have h5' : tmps[3]?.getD undef = e := by simpa using h5
  simp [results, Tryz.results76, asAddr, h4', h5', hl]
theorem RefAt.on {w w' : World} {s : ByteArray} {p : Nat} {v e : Value} (h : RefAt w s p v e) (hb : ∀ T u, e = .iface T u → IsErr w e 13 → IsErr w' e 13) : RefAt w' s p v e := by
  rcases h with h | ⟨h1, h2, T, u, h3, h4⟩
  · exact .inl h
  · exact .inr ⟨h1, h2, T, u, h3, hb T u h3 h4⟩
theorem mod_set3 (W : World) (b : Nat) (x y z : Value) : Mod (· = b) W (((W.setCell ⟨b, 0, none⟩ x).setCell ⟨b, 1, none⟩ y).setCell ⟨b, 2, none⟩ z) :=
  (((Mod.refl (· = b) W).set ⟨b, 0, none⟩ _ (.inl rfl)).set ⟨b, 1, none⟩ _ (.inl rfl)).set ⟨b, 2, none⟩ _ (.inl rfl)
theorem RefAt.bad {w : World} {s : ByteArray} {p : Nat} {n1 n2 n3 : Int} {e1 e2 e3 : Value} {q1 q2 q3 : Nat} (h1 : NumAt w s p 2048 n1 e1 q1) (h2 : NumAt w s q1 16384 n2 e2 q2) (h3 : NumAt w s q2 4294967295 n3 e3 q3)
    {i : Nat} (hi : i < 3) (hn : ∀ j, j < i → [e1, e2, e3].getD j .nilIface = .nilIface) {T : TypeId} {u : Value} (he : [e1, e2, e3].getD i .nilIface = .iface T u) : IsErr w (.iface T u) 13 ∧ RefAt w s p (.agg (refA 0 0 0)) (.iface T u) := by
  rcases h1 with ⟨y1, hy1, rfl, rfl, rfl⟩ | ⟨hno, rfl, ⟨T1, u1, rfl, hi1⟩, rfl⟩
  · rcases h2 with ⟨y2, hy2, rfl, rfl, rfl⟩ | ⟨hno, rfl, ⟨T1, u1, rfl, hi1⟩, rfl⟩
    · rcases h3 with ⟨y3, hy3, rfl, rfl, rfl⟩ | ⟨hno, rfl, ⟨T1, u1, rfl, hi1⟩, rfl⟩
      · exfalso
        rcases i with _ | _ | _ | i
        · cases he
        · cases he
        · cases he
        · omega
      · have e : (Value.iface T1 u1) = .iface T u := by
          rcases i with _ | _ | _ | i
          · cases he
          · cases he
          · exact he
          · omega
        rw [← e]
        refine ⟨hi1, .inr ⟨fun x y z hx hy hz => ?_, rfl, T1, u1, rfl, hi1⟩⟩
        obtain rfl := stands_one hx.2.2 hy1.2.2
        obtain rfl := stands_one hy.2.2 hy2.2.2
        exact hno z hz.1 hz.2.1 hz.2.2
    · have e : (Value.iface T1 u1) = .iface T u := by
        rcases i with _ | _ | i
        · cases he
        · exact he
        · have := hn 1 (by omega); cases this
      rw [← e]
      refine ⟨hi1, .inr ⟨fun x y z hx hy hz => ?_, rfl, T1, u1, rfl, hi1⟩⟩
      obtain rfl := stands_one hx.2.2 hy1.2.2
      exact hno y hy.1 hy.2.1 hy.2.2
  · have e : (Value.iface T1 u1) = .iface T u := by
      rcases i with _ | i
      · exact he
      · have := hn 0 (by omega); cases this
    rw [← e]
    exact ⟨hi1, .inr ⟨fun x y z hx hy hz => hno x hx.1 hx.2.1 hx.2.2, rfl, T1, u1, rfl, hi1⟩⟩
theorem RefAt.good {w : World} {s : ByteArray} {p : Nat} {n1 n2 n3 : Int} {e1 e2 e3 : Value} {q1 q2 q3 : Nat} (h1 : NumAt w s p 2048 n1 e1 q1) (h2 : NumAt w s q1 16384 n2 e2 q2) (h3 : NumAt w s q2 4294967295 n3 e3 q3)
    (hn : ∀ j, j < 3 → [e1, e2, e3].getD j .nilIface = .nilIface) : RefAt w s p (.agg (refA n1 n2 n3)) .nilIface ∧ 0 ≤ n3 ∧ n3 < 4294967296 := by
  have g1 := hn 0 (by omega)
  have g2 := hn 1 (by omega)
  have g3 := hn 2 (by omega)
  rcases h1 with ⟨y1, hy1, rfl, rfl, rfl⟩ | ⟨hno, rfl, ⟨T1, u1, rfl, hi1⟩, rfl⟩
  · rcases h2 with ⟨y2, hy2, rfl, rfl, rfl⟩ | ⟨hno, rfl, ⟨T1, u1, rfl, hi1⟩, rfl⟩
    · rcases h3 with ⟨y3, hy3, rfl, rfl, rfl⟩ | ⟨hno, rfl, ⟨T1, u1, rfl, hi1⟩, rfl⟩
      · exact ⟨.inl ⟨y1, y2, y3, hy1, hy2, hy3, rfl, rfl⟩, by omega, by have := hy3.2.1; omega⟩
      · cases g3
    · cases g2
  · cases g1
theorem ev_getD {e1 e2 e3 : Value} (h1 : Ev e1) (h2 : Ev e2) (h3 : Ev e3) (i : Nat) : Ev ([e1, e2, e3].getD i .nilIface) := by
  rcases i with _ | _ | _ | i
  · exact h1
  · exact h2
  · exact h3
  · exact .inl (by simp)
set_option maxHeartbeats 8000000 in
set_option maxRecDepth 100000 in
theorem bread_c (R : Nat) (s : ByteArray) (p : Nat) (w : World) (h : Hid (Has w R s p)) (hs : s.size ≤ 4611686018427387904) :
    Calls Tryz.prog 76 #[.pointer (some ⟨R, 0, none⟩)] w fun ev w' => ∃ v e, ev = .returned (.tuple #[v, e]) ∧ RefAt w' s p v e ∧ Mod (· = R) w w' := by
  go_enter Tryz.func76, Tryz.ntmps76
  go_wp2_with fail
  have hRl := Err.lt_of_block h.out
  have hb1 : Below w.heap.size w (w.alloc (Obj.cells (refA 0 0 0) 36 (0, 0))) := (Below.refl _ _).alloc (Nat.le_refl _) _
  have HZ1 := Lib.hid (Go.Deep.blk_alloc_new w (Obj.cells (refA 0 0 0) 36 (0, 0)))
  have HH1 := Lib.hid (show Has (w.alloc (Obj.cells (refA 0 0 0) 36 (0, 0))) R s p from (hb1.block R hRl).trans h.out)
  have HM1 := Lib.hid (Mod.of_below (S := (· = R)) hb1 (Nat.le_refl _))
  obtain ⟨Z, hZ⟩ : ∃ Z, w.heap.size = Z := ⟨_, rfl⟩
  rw [hZ] at HZ1
  generalize (w.alloc (Obj.cells (refA 0 0 0) 36 (0, 0))) = w1 at *
  have hRZ : ¬ Z = R := by omega
  simp only [hZ]
  clear hb1
  refine (num_any R s p _ _ HH1 hs).mono ?_
  rintro e w2 ⟨n1, e1, q1, rfl, ha1, hm, hh⟩
  have HA1 := Lib.hid ha1
  have HH2 := Lib.hid hh
  have HM2 := Lib.hid (HM1.out.tr hm)
  have HZ2 := Lib.hid (hm.blk HZ1.out hRZ)
  clear ha1 hh hm HM1 HH1 HZ1
  go_wp2_with fail
  refine (num_any R s q1 _ _ HH2 hs).mono ?_
  rintro e w3 ⟨n2, e2, q2, rfl, ha2, hm, hh⟩
  have HA2 := Lib.hid ha2
  have HA1' := Lib.hid (HA1.out.on (fun T x _ hi => isErr_has hi HH2.out hm))
  have HH3 := Lib.hid hh
  have HM3 := Lib.hid (HM2.out.tr hm)
  have HZ3 := Lib.hid (hm.blk HZ2.out hRZ)
  clear ha2 hh hm HM2 HH2 HZ2 HA1
  go_wp2_with fail
  refine (num_any R s q2 _ _ HH3 hs).mono ?_
  rintro e w4 ⟨n3, e3, q3, rfl, ha3, hm, hh⟩
  have HA3 := Lib.hid ha3
  have HA1 := Lib.hid (HA1'.out.on (fun T x _ hi => isErr_has hi HH3.out hm))
  have HA2' := Lib.hid (HA2.out.on (fun T x _ hi => isErr_has hi HH3.out hm))
  have HM4 := Lib.hid (HM3.out.tr hm)
  have HZ4 := Lib.hid (hm.blk HZ3.out hRZ)
  clear ha3 hh hm HM3 HH3 HZ3 HA1' HA2
  have HA2 := HA2'
  clear HA2'
  have hE1 := HA1.out.ev
  have hE2 := HA2.out.ev
  have hE3 := HA3.out.ev
  go_wp2_with (first
    | (refine Kd.event_run rfl (litE rfl rfl rfl rfl hE1 hE2 hE3 _) ?_))
  have hb5 : Below w4.heap.size w4 (w4.alloc (Obj.cells #[e1, e2, e3] 26 (0, 0))) := (Below.refl _ _).alloc (Nat.le_refl _) _
  have HK5 := Lib.hid (Go.Deep.blk_alloc_new w4 (Obj.cells #[e1, e2, e3] 26 (0, 0)))
  have HZ5 := Lib.hid (show (w4.alloc (Obj.cells #[e1, e2, e3] 26 (0, 0))).heap[Z]? = some (Obj.cells (refA 0 0 0) 36 (0, 0)) from (hb5.block Z (Err.lt_of_block HZ4.out)).trans HZ4.out)
  have HM5 := Lib.hid (HM4.out.on_below hb5 (Nat.le_refl _))
  have HB1 := Lib.hid (HA1.out.on (fun T x _ hi => hi.on hb5))
  have HB2 := Lib.hid (HA2.out.on (fun T x _ hi => hi.on hb5))
  have HB3 := Lib.hid (HA3.out.on (fun T x _ hi => hi.on hb5))
  have hKZ := Err.lt_of_block HZ4.out
  obtain ⟨K, hK⟩ : ∃ K, w4.heap.size = K := ⟨_, rfl⟩
  rw [hK] at HK5 hKZ
  simp only [hK]
  generalize (w4.alloc (Obj.cells #[e1, e2, e3] 26 (0, 0))) = w5 at *
  clear hb5 HZ4 HM4 HA1 HA2 HA3
  go_loopg [32] 3 (fun kq v0 wr => ∃ (i : Nat), v0 = .int .i64 (i : Int) ∧ kq + i = 3 ∧ wr = w5 ∧ Hid (∀ j, j < i → [e1, e2, e3].getD j .nilIface = .nilIface))
  case atStart => exact ⟨0, rfl, rfl, rfl, Lib.hid (fun j hj => by omega)⟩
  case round =>
    obtain ⟨i, rfl, hk, rfl, HN⟩ := hrel
    cases gk with
    | zero =>
      have hi3 : i = 3 := by omega
      subst hi3
      obtain ⟨hg, z0, z1⟩ := RefAt.good HB1.out HB2.out HB3.out HN.out
      have c3 : n3 % 4294967296 = n3 := by omega
      have HG := Lib.hid hg
      obtain ⟨k0, k1, k2⟩ := ref_keep HZ5.out (Below.refl wr.heap.size wr)
      have f0 : wr.frozen? ⟨Z, 0, none⟩ = false := by simp [World.frozen?, HZ5.out]
      have f1 : wr.frozen? ⟨Z, 1, none⟩ = false := by simp [World.frozen?, HZ5.out]
      have f2 : wr.frozen? ⟨Z, 2, none⟩ = false := by simp [World.frozen?, HZ5.out]
      clear hg z0 z1 HB1 HB2 HB3
      go_wp2_with fail
      (try simp only [Exit.inBlock, Exit.then])
      refine bodyPost_ret (v := .tuple #[.agg (refA n1 n2 n3), .nilIface]) ?_ rfl ?_
      · exact bread_results _ _ Z n1 n2 n3 .nilIface rfl rfl (set3 HZ5.out _ _ _)
      have hM3 := mod_set3 wr Z (.int .i64 n1) (.int .i64 n2) (.int .u32 n3)
      exact ⟨_, _, rfl, HG.out.on (fun T u e _ => by cases e), HM5.out.trans hM3 (fun i hi (e : i = Z) => by omega)⟩
    | succ k1 =>
      have c1 : decide ((i : Int) < 3) = true := decide_eq_true (by omega)
      have c1' : decide (i < 3) = true := decide_eq_true (by omega)
      have q5 : IntKind.i64.wrap ((i : Int) + 1) = (i : Int) + 1 := IntWalk.i64_in _ (by omega)
      have hi3 : i < 3 := by omega
      have hc : wr.cell? ⟨K, i, none⟩ = some ([e1, e2, e3].getD i .nilIface) := by
        rw [Err.cell_of_blk HK5.out]
        rcases i with _ | _ | _ | i
        · rfl
        · rfl
        · rfl
        · omega
      have hev := ev_getD hE1 hE2 hE3 i
      obtain ⟨V, hV⟩ : ∃ V, [e1, e2, e3].getD i .nilIface = V := ⟨_, rfl⟩
      rw [hV] at hc hev
      have HV := Lib.hid hV
      clear hV
      rcases hev with rfl | ⟨T, u, rfl⟩
      · go_wp2_with fail
        go_roundg k1
        case measure => exact Nat.lt_succ_self _
        case rel => exact ⟨i + 1, by simp, by omega, rfl, Lib.hid (fun j hj => by
          by_cases e : j = i
          · rw [e]; exact HV.out
          · exact HN.out j (by omega))⟩
      · obtain ⟨hi13, hra⟩ := RefAt.bad HB1.out HB2.out HB3.out hi3 HN.out HV.out
        have HR := Lib.hid hra
        obtain ⟨k0, k1, k2⟩ := ref_keep HZ5.out (Below.refl wr.heap.size wr)
        have f0 : wr.frozen? ⟨Z, 0, none⟩ = false := by simp [World.frozen?, HZ5.out]
        have f1 : wr.frozen? ⟨Z, 1, none⟩ = false := by simp [World.frozen?, HZ5.out]
        have f2 : wr.frozen? ⟨Z, 2, none⟩ = false := by simp [World.frozen?, HZ5.out]
        clear hi13 hra HB1 HB2 HB3
        go_wp2_with fail
        (try simp only [Exit.inBlock, Exit.then])
        refine bodyPost_ret (v := .tuple #[.agg (refA 0 0 0), .iface T u]) ?_ rfl ?_
        · exact bread_results _ _ Z 0 0 0 (.iface T u) rfl rfl (set3 HZ5.out _ _ _)
        have hM3 := mod_set3 wr Z (.int .i64 0) (.int .i64 0) (.int .u32 0)
        exact ⟨_, _, rfl, HR.out.on (fun T u _ hi => Rdr.isErr_mod hi hM3 (fun b cs hb (hf : b = Z) => by rw [hf, HZ5.out] at hb; simp at hb)), HM5.out.trans hM3 (fun i hi (e : i = Z) => by omega)⟩
end Go.Proofs.YtaodgnladjafoaaGreatDoor.Blb
