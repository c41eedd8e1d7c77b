/- Several texts in one: words that the proof of the law uses. -/
import Derived.Test.YtaodgnladjafoaaGreatDoorMani89V
import Derived.Test.YtaodgnladjafoaaGreatDoorReaderAllV
import Derived.Test.YtaodgnladjafoaaGreatDoorBlobReadV
set_option linter.unusedVariables false
set_option linter.unusedSimpArgs false
namespace Go.Proofs.YtaodgnladjafoaaGreatDoor.Rdr
open Go.RowKit Go.Proofs.YtaodgnladjafoaaGreatDoorW.PrintWords Go.Proofs.YtaodgnladjafoaaGreatDoorW.PrintLast Go.Proofs.YtaodgnladjafoaaGreatDoorW.PrintMore Go.Proofs.YtaodgnladjafoaaGreatDoor.CdM Go.Proofs.YtaodgnladjafoaaGreatDoor.Md
open Go.Proofs.YtaodgnladjafoaaGreatDoor.Err (Laid IsErr code_nil Chain at_some at_nil)
theorem at3 {w w2 w3 : World} {s : ByteArray} {p : Nat} {n1 n2 n3 : Int} {e1 e2 e3 : Value} {q1 q2 q3 : Nat} (a1 : NumAt w s p 2048 n1 e1 q1) (a2 : NumAt w2 s q1 16384 n2 e2 q2) (a3 : NumAt w3 s q2 4294967295 n3 e3 q3) {x y z : Nat} (h1 : NumTo s p 2048 x) (h2 : NumTo s (p + (num x).length) 16384 y) (h3 : NumTo s (p + (num x).length + (num y).length) 4294967295 z) : q3 = p + (num x).length + (num y).length + (num z).length := by
  have key : ∀ {w : World} {p : Nat} {most n : Int} {e : Value} {q y : Nat}, NumAt w s p most n e q → NumTo s p most y → q = p + (num y).length := by
    intro w p most n e q y ha hy
    rcases ha with ⟨y', hy', _, _, rfl⟩ | ⟨hno, _⟩
    · rw [stands_one hy.2.2 hy'.2.2]
    · exact absurd hy.2.2 (hno y hy.1 hy.2.1)
  have g1 := key a1 h1
  subst g1
  have g2 := key a2 h2
  subst g2
  exact key a3 h3
abbrev refA (x y z : Int) : Array Value := #[.int .i64 x, .int .i64 y, .int .u32 z]
theorem set1 {W : World} {b : Nat} {cs : Array Value} {t : TypeId} (h : W.heap[b]? = some (Obj.cells cs t (0, 0))) (j : Nat) (u : Value) : (W.setCell ⟨b, j, none⟩ u).heap[b]? = some (Obj.cells (cs.setIfInBounds j u) t (0, 0)) := by
  show (W.heap.modify b _)[b]? = _
  rw [Array.getElem?_modify]
  simp [h]
theorem set3 {W : World} {b : Nat} {x y z : Int} (h : W.heap[b]? = some (Obj.cells (refA x y z) 36 (0, 0))) (x' y' z' : Int) : (((W.setCell ⟨b, 0, none⟩ (.int .i64 x')).setCell ⟨b, 1, none⟩ (.int .i64 y')).setCell ⟨b, 2, none⟩ (.int .u32 z')).heap[b]? = some (Obj.cells (refA x' y' z') 36 (0, 0)) :=
  set1 (set1 (set1 h 0 _) 1 _) 2 _
theorem ref_keep {w wr : World} {K : Nat} {x y z : Int} (h : w.heap[K]? = some (Obj.cells (refA x y z) 36 (0, 0))) (hb : Below w.heap.size w wr) : wr.cell? ⟨K, 0, none⟩ = some (.int .i64 x) ∧ wr.cell? ⟨K, 1, none⟩ = some (.int .i64 y) ∧ wr.cell? ⟨K, 2, none⟩ = some (.int .u32 z) := by
  have h2 := (hb.block K (Err.lt_of_block h)).trans h
  exact ⟨Err.cell_of_blk h2 0, Err.cell_of_blk h2 1, Err.cell_of_blk h2 2⟩
def Ev (e : Value) : Prop := e = .nilIface ∨ ∃ T x, e = .iface T x
theorem litE0 (e1 e2 e3 : Value) (h1 : Ev e1) (h2 : Ev e2) (h3 : Ev e3) (W : World) : (Instr.buildSlice 162 3 #[(0, e1), (1, e2), (2, e3)]).run Tryz.prog W = .ok (.slice (some ⟨W.heap.size, 0, none⟩) 3 3) (W.alloc (.cells #[e1, e2, e3] 26 (0, 0))) := by
  rcases h1 with rfl | ⟨T1, x1, rfl⟩ <;> rcases h2 with rfl | ⟨T2, x2, rfl⟩ <;> rcases h3 with rfl | ⟨T3, x3, rfl⟩ <;> kernel_rfl
theorem litE {a : Operand → Value} {o : Oper} {o1 o2 o3 : Operand} {e1 e2 e3 : Value} (ho : o.op = .buildSlice 162 3 #[(0, o1), (1, o2), (2, o3)]) (h1 : a o1 = e1) (h2 : a o2 = e2) (h3 : a o3 = e3) (g1 : Ev e1) (g2 : Ev e2) (g3 : Ev e3) (W : World) : (execOp a o).run Tryz.prog W = .ok (.value (.slice (some ⟨W.heap.size, 0, none⟩) 3 3)) (W.alloc (.cells #[e1, e2, e3] 26 (0, 0))) := by
  have hh := litE0 e1 e2 e3 g1 g2 g3 W
  unfold execOp
  simp only [ho]
  have e : (#[((0 : Nat), o1), (1, o2), (2, o3)] : Array (Nat × Operand)).map (fun (y : Nat × Operand) => (y.1, a y.2)) = #[(0, e1), (1, e2), (2, e3)] := by simp [h1, h2, h3]
  show (Sem.run _ (do let v ← Instr.buildSlice _ 3 (Array.map _ _); _) _) = _
  rw [e, Sem.run_bind, hh]
  rfl
theorem NumAt.evm {w : World} {s : ByteArray} {p : Nat} {most n : Int} {e : Value} {q : Nat} (h : NumAt w s p most n e q) : Ev e := by
  rcases h with ⟨y, _, _, h, _⟩ | ⟨_, _, ⟨T, x, h, _⟩, _⟩
  · exact .inl h
  · exact .inr ⟨T, x, h⟩
def RefAt (w : World) (s : ByteArray) (p : Nat) (v : Value) (e : Value) : Prop :=
  (∃ x y z : Nat, NumTo s p 2048 x ∧ NumTo s (p + (num x).length) 16384 y ∧ NumTo s (p + (num x).length + (num y).length) 4294967295 z ∧ v = .agg (refA x y z) ∧ e = .nilIface) ∨
  ((∀ x y z : Nat, NumTo s p 2048 x → NumTo s (p + (num x).length) 16384 y → ¬ NumTo s (p + (num x).length + (num y).length) 4294967295 z) ∧ v = .agg (refA 0 0 0) ∧ ∃ T u, e = .iface T u ∧ IsErr w e 13)
theorem bread_results (tmps : Array Value) (W : World) (b : Nat) (x y z : Int) (e : Value) (h4 : tmps.getD 2 undef = .pointer (some ⟨b, 0, none⟩)) (h5 : tmps.getD 3 undef = e) (h : W.heap[b]? = some (Obj.cells (refA x y z) 36 (0, 0))) : (results Tryz.f76 tmps).run Tryz.prog W = .ok (.tuple #[.agg (refA x y z), e]) W := by
  have hl : (loadVar 36 ⟨b, 0, none⟩).run Tryz.prog W = .ok (.agg (refA x y z)) W := run_loadVar_row W b 36 36 (refA x y z) (0, 0) _ h Tryz.underlying36 rfl (by kernel_rfl)
  have h4' : tmps[2]?.getD undef = .pointer (some ⟨b, 0, none⟩) := by simpa using h4
  have h5' : tmps[3]?.getD undef = e := by simpa using h5
  simp [results, Tryz.results76, asAddr, h4', h5', hl]
theorem RefAt.on {w w' : World} {s : ByteArray} {p : Nat} {v e : Value} (h : RefAt w s p v e) (hb : ∀ T u, e = .iface T u → IsErr w e 13 → IsErr w' e 13) : RefAt w' s p v e := by
  rcases h with h | ⟨h1, h2, T, u, h3, h4⟩
  · exact .inl h
  · exact .inr ⟨h1, h2, T, u, h3, hb T u h3 h4⟩
theorem mod_set3 (W : World) (b : Nat) (x y z : Value) : Mod (· = b) W (((W.setCell ⟨b, 0, none⟩ x).setCell ⟨b, 1, none⟩ y).setCell ⟨b, 2, none⟩ z) :=
  (((Mod.refl (· = b) W).set ⟨b, 0, none⟩ _ (.inl rfl)).set ⟨b, 1, none⟩ _ (.inl rfl)).set ⟨b, 2, none⟩ _ (.inl rfl)
theorem RefAt.bad {w : World} {s : ByteArray} {p : Nat} {n1 n2 n3 : Int} {e1 e2 e3 : Value} {q1 q2 q3 : Nat} (h1 : NumAt w s p 2048 n1 e1 q1) (h2 : NumAt w s q1 16384 n2 e2 q2) (h3 : NumAt w s q2 4294967295 n3 e3 q3)
    {i : Nat} (hi : i < 3) (hn : ∀ j, j < i → [e1, e2, e3].getD j .nilIface = .nilIface) {T : TypeId} {u : Value} (he : [e1, e2, e3].getD i .nilIface = .iface T u) : IsErr w (.iface T u) 13 ∧ RefAt w s p (.agg (refA 0 0 0)) (.iface T u) := by
  rcases h1 with ⟨y1, hy1, rfl, rfl, rfl⟩ | ⟨hno, rfl, ⟨T1, u1, rfl, hi1⟩, rfl⟩
  · rcases h2 with ⟨y2, hy2, rfl, rfl, rfl⟩ | ⟨hno, rfl, ⟨T1, u1, rfl, hi1⟩, rfl⟩
    · rcases h3 with ⟨y3, hy3, rfl, rfl, rfl⟩ | ⟨hno, rfl, ⟨T1, u1, rfl, hi1⟩, rfl⟩
      · exfalso
        rcases i with _ | _ | _ | i
        · cases he
        · cases he
        · cases he
        · omega
      · have e : (Value.iface T1 u1) = .iface T u := by
          rcases i with _ | _ | _ | i
          · cases he
          · cases he
          · exact he
          · omega
        rw [← e]
        refine ⟨hi1, .inr ⟨fun x y z hx hy hz => ?_, rfl, T1, u1, rfl, hi1⟩⟩
        obtain rfl := stands_one hx.2.2 hy1.2.2
        obtain rfl := stands_one hy.2.2 hy2.2.2
        exact hno z hz.1 hz.2.1 hz.2.2
    · have e : (Value.iface T1 u1) = .iface T u := by
        rcases i with _ | _ | i
        · cases he
        · exact he
        · have := hn 1 (by omega); cases this
      rw [← e]
      refine ⟨hi1, .inr ⟨fun x y z hx hy hz => ?_, rfl, T1, u1, rfl, hi1⟩⟩
      obtain rfl := stands_one hx.2.2 hy1.2.2
      exact hno y hy.1 hy.2.1 hy.2.2
  · have e : (Value.iface T1 u1) = .iface T u := by
      rcases i with _ | i
      · exact he
      · have := hn 0 (by omega); cases this
    rw [← e]
    exact ⟨hi1, .inr ⟨fun x y z hx hy hz => hno x hx.1 hx.2.1 hx.2.2, rfl, T1, u1, rfl, hi1⟩⟩
theorem RefAt.good {w : World} {s : ByteArray} {p : Nat} {n1 n2 n3 : Int} {e1 e2 e3 : Value} {q1 q2 q3 : Nat} (h1 : NumAt w s p 2048 n1 e1 q1) (h2 : NumAt w s q1 16384 n2 e2 q2) (h3 : NumAt w s q2 4294967295 n3 e3 q3)
    (hn : ∀ j, j < 3 → [e1, e2, e3].getD j .nilIface = .nilIface) : RefAt w s p (.agg (refA n1 n2 n3)) .nilIface ∧ 0 ≤ n3 ∧ n3 < 4294967296 := by
  have g1 := hn 0 (by omega)
  have g2 := hn 1 (by omega)
  have g3 := hn 2 (by omega)
  rcases h1 with ⟨y1, hy1, rfl, rfl, rfl⟩ | ⟨hno, rfl, ⟨T1, u1, rfl, hi1⟩, rfl⟩
  · rcases h2 with ⟨y2, hy2, rfl, rfl, rfl⟩ | ⟨hno, rfl, ⟨T1, u1, rfl, hi1⟩, rfl⟩
    · rcases h3 with ⟨y3, hy3, rfl, rfl, rfl⟩ | ⟨hno, rfl, ⟨T1, u1, rfl, hi1⟩, rfl⟩
      · exact ⟨.inl ⟨y1, y2, y3, hy1, hy2, hy3, rfl, rfl⟩, by omega, by have := hy3.2.1; omega⟩
      · cases g3
    · cases g2
  · cases g1
theorem ev_getD {e1 e2 e3 : Value} (h1 : Ev e1) (h2 : Ev e2) (h3 : Ev e3) (i : Nat) : Ev ([e1, e2, e3].getD i .nilIface) := by
  rcases i with _ | _ | _ | i
  · exact h1
  · exact h2
  · exact h3
  · exact .inl (by simp)
set_option maxHeartbeats 8000000 in
set_option maxRecDepth 100000 in
theorem bread_c (R : Nat) (s : ByteArray) (p : Nat) (w : World) (h : Hid (Has w R s p)) (hs : s.size ≤ 4611686018427387904) :
    Calls Tryz.prog 76 #[.pointer (some ⟨R, 0, none⟩)] w fun ev w' => ∃ v e, ev = .returned (.tuple #[v, e]) ∧ RefAt w' s p v e ∧ Mod (· = R) w w' ∧ ∃ q, Has w' R s q ∧ ∀ x y z : Nat, NumTo s p 2048 x → NumTo s (p + (num x).length) 16384 y → NumTo s (p + (num x).length + (num y).length) 4294967295 z → q = p + (num x).length + (num y).length + (num z).length := by
  go_enter Tryz.func76, Tryz.ntmps76
  go_wp2_with fail
  have hRl := Err.lt_of_block h.out
  have hb1 : Below w.heap.size w (w.alloc (Obj.cells (refA 0 0 0) 36 (0, 0))) := (Below.refl _ _).alloc (Nat.le_refl _) _
  have HZ1 := Lib.hid (Go.Deep.blk_alloc_new w (Obj.cells (refA 0 0 0) 36 (0, 0)))
  have HH1 := Lib.hid (show Has (w.alloc (Obj.cells (refA 0 0 0) 36 (0, 0))) R s p from (hb1.block R hRl).trans h.out)
  have HM1 := Lib.hid (Mod.of_below (S := (· = R)) hb1 (Nat.le_refl _))
  obtain ⟨Z, hZ⟩ : ∃ Z, w.heap.size = Z := ⟨_, rfl⟩
  rw [hZ] at HZ1
  generalize (w.alloc (Obj.cells (refA 0 0 0) 36 (0, 0))) = w1 at *
  have hRZ : ¬ Z = R := by omega
  simp only [hZ]
  clear hb1
  refine (num_any R s p _ _ HH1 hs).mono ?_
  rintro e w2 ⟨n1, e1, q1, rfl, ha1, hm, hh⟩
  have HA1 := Lib.hid ha1
  have HH2 := Lib.hid hh
  have HM2 := Lib.hid (HM1.out.tr hm)
  have HZ2 := Lib.hid (hm.blk HZ1.out hRZ)
  clear ha1 hh hm HM1 HH1 HZ1
  go_wp2_with fail
  refine (num_any R s q1 _ _ HH2 hs).mono ?_
  rintro e w3 ⟨n2, e2, q2, rfl, ha2, hm, hh⟩
  have HA2 := Lib.hid ha2
  have HA1' := Lib.hid (HA1.out.on (fun T x _ hi => isErr_has hi HH2.out hm))
  have HH3 := Lib.hid hh
  have HM3 := Lib.hid (HM2.out.tr hm)
  have HZ3 := Lib.hid (hm.blk HZ2.out hRZ)
  clear ha2 hh hm HM2 HH2 HZ2 HA1
  go_wp2_with fail
  refine (num_any R s q2 _ _ HH3 hs).mono ?_
  rintro e w4 ⟨n3, e3, q3, rfl, ha3, hm, hh⟩
  have HA3 := Lib.hid ha3
  have HH4 := Lib.hid hh
  have HA1 := Lib.hid (HA1'.out.on (fun T x _ hi => isErr_has hi HH3.out hm))
  have HA2' := Lib.hid (HA2.out.on (fun T x _ hi => isErr_has hi HH3.out hm))
  have HM4 := Lib.hid (HM3.out.tr hm)
  have HZ4 := Lib.hid (hm.blk HZ3.out hRZ)
  clear ha3 hh hm HM3 HH3 HZ3 HA1' HA2
  have HA2 := HA2'
  clear HA2'
  have hE1 := HA1.out.evm
  have hE2 := HA2.out.evm
  have hE3 := HA3.out.evm
  go_wp2_with (first
    | (refine Kd.event_run rfl (litE rfl rfl rfl rfl hE1 hE2 hE3 _) ?_))
  have hb5 : Below w4.heap.size w4 (w4.alloc (Obj.cells #[e1, e2, e3] 26 (0, 0))) := (Below.refl _ _).alloc (Nat.le_refl _) _
  have HK5 := Lib.hid (Go.Deep.blk_alloc_new w4 (Obj.cells #[e1, e2, e3] 26 (0, 0)))
  have HZ5 := Lib.hid (show (w4.alloc (Obj.cells #[e1, e2, e3] 26 (0, 0))).heap[Z]? = some (Obj.cells (refA 0 0 0) 36 (0, 0)) from (hb5.block Z (Err.lt_of_block HZ4.out)).trans HZ4.out)
  have HM5 := Lib.hid (HM4.out.on_below hb5 (Nat.le_refl _))
  have HH5 := Lib.hid (show Has (w4.alloc (Obj.cells #[e1, e2, e3] 26 (0, 0))) R s q3 from (hb5.block R (Err.lt_of_block HH4.out)).trans HH4.out)
  have HQ3 := Lib.hid (fun (x y z : Nat) (h1 : NumTo s p 2048 x) (h2 : NumTo s (p + (num x).length) 16384 y) (h3 : NumTo s (p + (num x).length + (num y).length) 4294967295 z) => at3 HA1.out HA2.out HA3.out h1 h2 h3)
  have HB1 := Lib.hid (HA1.out.on (fun T x _ hi => hi.on hb5))
  have HB2 := Lib.hid (HA2.out.on (fun T x _ hi => hi.on hb5))
  have HB3 := Lib.hid (HA3.out.on (fun T x _ hi => hi.on hb5))
  have hKZ := Err.lt_of_block HZ4.out
  obtain ⟨K, hK⟩ : ∃ K, w4.heap.size = K := ⟨_, rfl⟩
  rw [hK] at HK5 hKZ
  simp only [hK]
  generalize (w4.alloc (Obj.cells #[e1, e2, e3] 26 (0, 0))) = w5 at *
  clear hb5 HZ4 HM4 HH4 HA1 HA2 HA3
  go_loopg [32] 3 (fun kq v0 wr => ∃ (i : Nat), v0 = .int .i64 (i : Int) ∧ kq + i = 3 ∧ wr = w5 ∧ Hid (∀ j, j < i → [e1, e2, e3].getD j .nilIface = .nilIface))
  case atStart => exact ⟨0, rfl, rfl, rfl, Lib.hid (fun j hj => by omega)⟩
  case round =>
    obtain ⟨i, rfl, hk, rfl, HN⟩ := hrel
    cases gk with
    | zero =>
      have hi3 : i = 3 := by omega
      subst hi3
      obtain ⟨hg, z0, z1⟩ := RefAt.good HB1.out HB2.out HB3.out HN.out
      have c3 : n3 % 4294967296 = n3 := by omega
      have HG := Lib.hid hg
      obtain ⟨k0, k1, k2⟩ := ref_keep HZ5.out (Below.refl wr.heap.size wr)
      have f0 : wr.frozen? ⟨Z, 0, none⟩ = false := by simp [World.frozen?, HZ5.out]
      have f1 : wr.frozen? ⟨Z, 1, none⟩ = false := by simp [World.frozen?, HZ5.out]
      have f2 : wr.frozen? ⟨Z, 2, none⟩ = false := by simp [World.frozen?, HZ5.out]
      clear hg z0 z1 HB1 HB2 HB3
      go_wp2_with fail
      (try simp only [Exit.inBlock, Exit.then])
      refine bodyPost_ret (v := .tuple #[.agg (refA n1 n2 n3), .nilIface]) ?_ rfl ?_
      · exact bread_results _ _ Z n1 n2 n3 .nilIface rfl rfl (set3 HZ5.out _ _ _)
      have hM3 := mod_set3 wr Z (.int .i64 n1) (.int .i64 n2) (.int .u32 n3)
      exact ⟨_, _, rfl, HG.out.on (fun T u e _ => by cases e), HM5.out.trans hM3 (fun i hi (e : i = Z) => by omega), q3, HH5.out.mod hM3 (fun (e : R = Z) => hRZ e.symm), HQ3.out⟩
    | succ k1 =>
      have c1 : decide ((i : Int) < 3) = true := decide_eq_true (by omega)
      have c1' : decide (i < 3) = true := decide_eq_true (by omega)
      have q5 : IntKind.i64.wrap ((i : Int) + 1) = (i : Int) + 1 := IntWalk.i64_in _ (by omega)
      have hi3 : i < 3 := by omega
      have hc : wr.cell? ⟨K, i, none⟩ = some ([e1, e2, e3].getD i .nilIface) := by
        rw [Err.cell_of_blk HK5.out]
        rcases i with _ | _ | _ | i
        · rfl
        · rfl
        · rfl
        · omega
      have hev := ev_getD hE1 hE2 hE3 i
      obtain ⟨V, hV⟩ : ∃ V, [e1, e2, e3].getD i .nilIface = V := ⟨_, rfl⟩
      rw [hV] at hc hev
      have HV := Lib.hid hV
      clear hV
      rcases hev with rfl | ⟨T, u, rfl⟩
      · go_wp2_with fail
        go_roundg k1
        case measure => exact Nat.lt_succ_self _
        case rel => exact ⟨i + 1, by simp, by omega, rfl, Lib.hid (fun j hj => by
          by_cases e : j = i
          · rw [e]; exact HV.out
          · exact HN.out j (by omega))⟩
      · obtain ⟨hi13, hra⟩ := RefAt.bad HB1.out HB2.out HB3.out hi3 HN.out HV.out
        have HR := Lib.hid hra
        obtain ⟨k0, k1, k2⟩ := ref_keep HZ5.out (Below.refl wr.heap.size wr)
        have f0 : wr.frozen? ⟨Z, 0, none⟩ = false := by simp [World.frozen?, HZ5.out]
        have f1 : wr.frozen? ⟨Z, 1, none⟩ = false := by simp [World.frozen?, HZ5.out]
        have f2 : wr.frozen? ⟨Z, 2, none⟩ = false := by simp [World.frozen?, HZ5.out]
        clear hi13 hra HB1 HB2 HB3
        go_wp2_with fail
        (try simp only [Exit.inBlock, Exit.then])
        refine bodyPost_ret (v := .tuple #[.agg (refA 0 0 0), .iface T u]) ?_ rfl ?_
        · exact bread_results _ _ Z 0 0 0 (.iface T u) rfl rfl (set3 HZ5.out _ _ _)
        have hM3 := mod_set3 wr Z (.int .i64 0) (.int .i64 0) (.int .u32 0)
        exact ⟨_, _, rfl, HR.out.on (fun T u _ hi => isErr_mod hi hM3 (fun b cs hb (hf : b = Z) => by rw [hf, HZ5.out] at hb; simp at hb)), HM5.out.trans hM3 (fun i hi (e : i = Z) => by omega), q3, HH5.out.mod hM3 (fun (e : R = Z) => hRZ e.symm), HQ3.out⟩
theorem stands_le {s : ByteArray} {q y : Nat} (h : Stands s q y) : q + (num y).length ≤ s.size := by
  have hp := num_pos y
  obtain ⟨h1, _⟩ := h ((num y).length - 1) (by omega)
  omega
def On (s : ByteArray) (p : Nat) (t : ByteArray) : Prop := ∃ r, s.data.toList.drop p = t.data.toList ++ r
theorem size_list (t : ByteArray) : t.data.toList.length = t.size := by simp
theorem On.app {s : ByteArray} {p : Nat} {a b : ByteArray} : On s p (a ++ b) ↔ On s p a ∧ On s (p + a.size) b := by
  unfold On
  rw [ByteArray.data_append, Array.toList_append]
  constructor
  · rintro ⟨r, h⟩
    refine ⟨⟨b.data.toList ++ r, by rw [h, List.append_assoc]⟩, r, ?_⟩
    rw [← List.drop_drop, h, ← size_list a, List.append_assoc, List.drop_left]
  · rintro ⟨⟨r, h⟩, r2, h2⟩
    rw [← List.drop_drop, h, ← size_list a, List.drop_left] at h2
    exact ⟨r2, by rw [h, h2, List.append_assoc]⟩
theorem On.le {s : ByteArray} {p : Nat} {t : ByteArray} (h : On s p t) (ht : 1 ≤ t.size) : p + t.size ≤ s.size := by
  obtain ⟨r, h⟩ := h
  have := congrArg List.length h
  rw [List.length_drop, List.length_append, size_list, size_list] at this
  omega
theorem On.of_stands {s : ByteArray} {p x : Nat} (h : Stands s p x) : On s p (numS x) := by
  refine ⟨(s.data.toList.drop p).drop (num x).length, ?_⟩
  rw [digs_u8]
  have hl := stands_le h
  have e : (s.data.toList.drop p).take (num x).length = (num x).map UInt8.ofNat := by
    apply List.ext_getElem
    · simp; omega
    · intro j h1 h2
      have hj : j < (num x).length := by simpa using h2
      obtain ⟨hq, hv⟩ := h j hj
      rw [List.getElem_take, List.getElem_drop, List.getElem_map]
      have e1 : s.data.toList[p + j]'(by rw [size_list]; exact hq) = s[p + j]'hq := by rw [Array.getElem_toList]; rfl
      rw [e1]
      have hv2 : (s[p + j]'hq).toNat = (num x)[j]'hj := by
        rw [hv, List.getD_eq_getElem?_getD, List.getElem?_eq_getElem hj]; rfl
      have hb := num_byte x ((num x)[j]'hj) (List.getElem_mem hj)
      rw [← UInt8.toNat_inj, hv2, UInt8.toNat_ofNat']
      omega
  rw [← e, List.take_append_drop]
theorem On.stands {s : ByteArray} {p x : Nat} (h : On s p (numS x)) : Stands s p x := by
  have hle := On.le h (by rw [numS_size]; exact num_pos x)
  obtain ⟨r, h⟩ := h
  have e : s = (⟨(s.data.toList.take p).toArray⟩ : ByteArray) ++ numS x ++ ⟨r.toArray⟩ := by
    apply ByteArray.ext
    apply Array.toList_inj.1
    rw [ByteArray.data_append, ByteArray.data_append, Array.toList_append, Array.toList_append]
    show _ = s.data.toList.take p ++ (numS x).data.toList ++ r
    rw [List.append_assoc, ← h, List.take_append_drop]
  have hs := Rdr.stands_mid (⟨(s.data.toList.take p).toArray⟩ : ByteArray) ⟨r.toArray⟩ x
  rw [← e] at hs
  have ep : (⟨(s.data.toList.take p).toArray⟩ : ByteArray).size = p := by
    show (s.data.toList.take p).toArray.size = p
    rw [List.size_toArray, List.length_take, size_list]; omega
  rw [ep] at hs
  exact hs
end Go.Proofs.YtaodgnladjafoaaGreatDoor.Rdr
namespace Go.Proofs.YtaodgnladjafoaaGreatDoor.Mni
open Go.RowKit Go.Proofs.YtaodgnladjafoaaGreatDoorW.PrintWords Go.Proofs.YtaodgnladjafoaaGreatDoorW.PrintLast Go.Proofs.YtaodgnladjafoaaGreatDoorW.PrintMore Go.Proofs.YtaodgnladjafoaaGreatDoor.Md Go.Proofs.YtaodgnladjafoaaGreatDoor.QStoreLasts Go.Proofs.YtaodgnladjafoaaGreatDoor.CdM
open Go.Proofs.YtaodgnladjafoaaGreatDoor.Err (Laid IsErr code_nil code_c Chain at_some at_nil)
open Go.Proofs.YtaodgnladjafoaaGreatDoor.Rdr (NumTo NumAt NoNumTo RefAt On Has refA)
open Classical in
noncomputable def numP (s : ByteArray) (p : Nat) (most : Int) : Option (Nat × Nat) := if h : ∃ y : Nat, NumTo s p most y then some (Classical.choose h, p + (num (Classical.choose h)).length) else none
theorem numP_some {s : ByteArray} {p y : Nat} {most : Int} (h : NumTo s p most y) : numP s p most = some (y, p + (num y).length) := by
  unfold numP
  have hex : ∃ y : Nat, NumTo s p most y := ⟨y, h⟩
  rw [dif_pos hex]
  have e := Rdr.stands_one (Classical.choose_spec hex).2.2 h.2.2
  rw [e]
theorem numP_none {s : ByteArray} {p : Nat} {most : Int} (h : NoNumTo s p most) : numP s p most = none := by
  unfold numP
  rw [dif_neg (fun hex => by obtain ⟨y, h1, h2, h3⟩ := hex; exact h y h1 h2 h3)]
theorem numP_of {s : ByteArray} {p y q : Nat} {most : Int} (h : numP s p most = some (y, q)) : NumTo s p most y ∧ q = p + (num y).length := by
  unfold numP at h
  by_cases hex : ∃ y : Nat, NumTo s p most y
  · rw [dif_pos hex] at h
    injection h with h
    injection h with h1 h2
    have hs := Classical.choose_spec hex
    rw [h1] at hs h2
    exact ⟨hs, h2.symm⟩
  · rw [dif_neg hex] at h; cases h
theorem numAt_P {w : World} {s : ByteArray} {p q : Nat} {most n : Int} {e : Value} (h : NumAt w s p most n e q) : (∃ y : Nat, numP s p most = some (y, q) ∧ n = (y : Int) ∧ e = .nilIface ∧ (y : Int) ≤ most) ∨ (numP s p most = none ∧ n = 0 ∧ ∃ T x, e = .iface T x ∧ IsErr w (.iface T x) 13) := by
  rcases h with ⟨y, hy, rfl, rfl, rfl⟩ | ⟨hno, rfl, ⟨T, x, rfl, hi⟩, rfl⟩
  · exact .inl ⟨y, numP_some hy, rfl, rfl, hy.2.1⟩
  · exact .inr ⟨numP_none hno, rfl, T, x, rfl, hi⟩
noncomputable def refP (s : ByteArray) (p : Nat) : Option (Rf × Nat) := (numP s p 2048).bind fun a => (numP s a.2 16384).bind fun b => (numP s b.2 4294967295).bind fun c => some (⟨(a.1 : Int), (b.1 : Int), (c.1 : Int)⟩, c.2)
theorem refAt_P {w : World} {s : ByteArray} {p R : Nat} {v e : Value} (h : RefAt w s p v e) (hq : ∃ q, Has w R s q ∧ ∀ x y z : Nat, NumTo s p 2048 x → NumTo s (p + (num x).length) 16384 y → NumTo s (p + (num x).length + (num y).length) 4294967295 z → q = p + (num x).length + (num y).length + (num z).length) :
    (∃ r q, refP s p = some (r, q) ∧ v = .agg (ra r) ∧ e = .nilIface ∧ Has w R s q) ∨ (refP s p = none ∧ v = .agg (ra ⟨0, 0, 0⟩) ∧ (∃ T x, e = .iface T x ∧ IsErr w (.iface T x) 13) ∧ ∃ q, Has w R s q) := by
  obtain ⟨q, hh, hq⟩ := hq
  rcases h with ⟨x, y, z, h1, h2, h3, rfl, rfl⟩ | ⟨hno, rfl, T, u, rfl, hi⟩
  · refine .inl ⟨⟨x, y, z⟩, q, ?_, rfl, rfl, hh⟩
    unfold refP
    rw [numP_some h1, Option.bind_some, numP_some h2, Option.bind_some, numP_some h3, Option.bind_some, hq x y z h1 h2 h3]
  · refine .inr ⟨?_, rfl, ⟨T, u, rfl, hi⟩, q, hh⟩
    unfold refP
    cases e1 : numP s p 2048 with
    | none => rfl
    | some a =>
      obtain ⟨g1, g1q⟩ := numP_of (y := a.1) (q := a.2) e1
      rw [Option.bind_some]
      cases e2 : numP s a.2 16384 with
      | none => rfl
      | some b =>
        obtain ⟨g2, g2q⟩ := numP_of (y := b.1) (q := b.2) e2
        rw [Option.bind_some]
        cases e3 : numP s b.2 4294967295 with
        | none => rfl
        | some c =>
          obtain ⟨g3, _⟩ := numP_of (y := c.1) (q := c.2) e3
          rw [g2q] at g3
          rw [g1q] at g2 g3
          exact absurd g3 (hno _ _ _ g1 g2)
noncomputable def itemsP (s : ByteArray) : Nat → Nat → Option (List Int × Nat)
  | 0, p => some ([], p)
  | n + 1, p => (numP s p 64).bind fun a => (itemsP s n a.2).bind fun b => some ((a.1 : Int) :: b.1, b.2)
noncomputable def listP (s : ByteArray) (p : Nat) : Option (List Int × Nat) := (numP s p 9).bind fun a => itemsP s a.1 a.2
noncomputable def refsIt (s : ByteArray) : Nat → Nat → Option (List Rf × Nat)
  | 0, p => some ([], p)
  | n + 1, p => (refP s p).bind fun a => (refsIt s n a.2).bind fun b => some (a.1 :: b.1, b.2)
noncomputable def refsP (s : ByteArray) (p : Nat) : Option (List Rf × Nat) := (numP s p 64).bind fun a => refsIt s a.1 a.2
noncomputable def snapsIt (s : ByteArray) : Nat → Nat → Option (List (List Int) × Nat)
  | 0, p => some ([], p)
  | n + 1, p => (listP s p).bind fun a => (snapsIt s n a.2).bind fun b => some (a.1 :: b.1, b.2)
noncomputable def partsP (s : ByteArray) (p : Nat) : Option (Man × Nat) :=
  (refsP s p).bind fun a => (listP s a.2).bind fun b => (numP s b.2 64).bind fun c => (numP s c.2 16).bind fun d => (snapsIt s d.1 d.2).bind fun f => some (⟨a.1, b.1, (c.1 : Int) - 1, f.1⟩, f.2)
theorem num_on {s : ByteArray} {p y q : Nat} {most : Int} (h : numP s p most = some (y, q)) : On s p (numS y) ∧ q = p + (numS y).size ∧ y ≤ 4611686018427387904 ∧ (y : Int) ≤ most := by
  obtain ⟨h1, h2⟩ := numP_of h
  exact ⟨On.of_stands h1.2.2, by rw [h2, numS_size], h1.1, h1.2.1⟩
theorem on_num {s : ByteArray} {p y : Nat} {most : Int} (h : On s p (numS y)) (h1 : y ≤ 4611686018427387904) (h2 : (y : Int) ≤ most) : numP s p most = some (y, p + (numS y).size) := by
  rw [numP_some (y := y) ⟨h1, h2, h.stands⟩, numS_size]
theorem one_numS (y : Nat) : numsS [(y : Int)] = numS y := by
  show numS ((y : Int).toNat) ++ (⟨#[]⟩ : ByteArray) = _
  rw [append_empty, Int.toNat_natCast]
theorem on_empty (s : ByteArray) (p : Nat) : On s p ⟨#[]⟩ := ⟨s.data.toList.drop p, rfl⟩
theorem ref_on {s : ByteArray} {p q : Nat} {r : Rf} (h : refP s p = some (r, q)) : On s p (refS r) ∧ q = p + (refS r).size ∧ (0 ≤ r.f0 ∧ r.f0 ≤ 4611686018427387904 ∧ 0 ≤ r.f1 ∧ r.f1 ≤ 4611686018427387904 ∧ 0 ≤ r.f2 ∧ r.f2 ≤ 4294967295) := by
  unfold refP at h
  cases e1 : numP s p 2048 with
  | none => rw [e1] at h; cases h
  | some a =>
    rw [e1, Option.bind_some] at h
    cases e2 : numP s a.2 16384 with
    | none => rw [e2] at h; cases h
    | some b =>
      rw [e2, Option.bind_some] at h
      cases e3 : numP s b.2 4294967295 with
      | none => rw [e3] at h; cases h
      | some c =>
        rw [e3, Option.bind_some] at h
        injection h with h
        injection h with h4 h5
        obtain ⟨a1, a2, a3, a4⟩ := num_on (y := a.1) (q := a.2) e1
        obtain ⟨b1, b2, b3, b4⟩ := num_on (y := b.1) (q := b.2) e2
        obtain ⟨c1, c2, c3, c4⟩ := num_on (y := c.1) (q := c.2) e3
        rw [a2] at b1 b2
        rw [b2] at c1 c2
        subst h4
        have e : refS ⟨(a.1 : Int), (b.1 : Int), (c.1 : Int)⟩ = numS a.1 ++ numS b.1 ++ numS c.1 := by
          unfold refS
          simp only [Int.toNat_natCast]
        rw [e]
        refine ⟨On.app.2 ⟨On.app.2 ⟨a1, b1⟩, by rw [ByteArray.size_append, ← Nat.add_assoc]; exact c1⟩, by rw [← h5, c2, ByteArray.size_append, ByteArray.size_append]; omega, ?_⟩
        show 0 ≤ (a.1 : Int) ∧ (a.1 : Int) ≤ 4611686018427387904 ∧ 0 ≤ (b.1 : Int) ∧ (b.1 : Int) ≤ 4611686018427387904 ∧ 0 ≤ (c.1 : Int) ∧ (c.1 : Int) ≤ 4294967295
        omega
theorem items_on {s : ByteArray} : ∀ (n p : Nat) {l : List Int} {q : Nat}, itemsP s n p = some (l, q) → On s p (numsS l) ∧ q = p + (numsS l).size ∧ l.length = n ∧ ∀ x ∈ l, 0 ≤ x ∧ x ≤ 64
  | 0, p, l, q, h => by
    injection h with h
    injection h with h1 h2
    subst h1
    exact ⟨on_empty s p, h2.symm, rfl, fun x hx => (List.not_mem_nil hx).elim⟩
  | n + 1, p, l, q, h => by
    unfold itemsP at h
    cases e1 : numP s p 64 with
    | none => rw [e1] at h; cases h
    | some a =>
      rw [e1, Option.bind_some] at h
      cases e2 : itemsP s n a.2 with
      | none => rw [e2] at h; cases h
      | some b =>
        rw [e2, Option.bind_some] at h
        injection h with h
        injection h with h4 h5
        obtain ⟨a1, a2, a3, a4⟩ := num_on (y := a.1) (q := a.2) e1
        obtain ⟨b1, b2, b3, b4⟩ := items_on n a.2 (l := b.1) (q := b.2) e2
        subst h4
        have e : numsS ((a.1 : Int) :: b.1) = numS a.1 ++ numsS b.1 := by
          show numS ((a.1 : Int).toNat) ++ numsS b.1 = _
          rw [Int.toNat_natCast]
        rw [e]
        refine ⟨On.app.2 ⟨a1, by rw [← a2]; exact b1⟩, by rw [← h5, b2, a2, ByteArray.size_append]; omega, by rw [List.length_cons, b3], fun x hx => ?_⟩
        rcases List.mem_cons.1 hx with rfl | hx
        · omega
        · exact b4 x hx
theorem list_on {s : ByteArray} {p q : Nat} {l : List Int} (h : listP s p = some (l, q)) : On s p (numsS [(l.length : Int)] ++ numsS l) ∧ q = p + (numsS [(l.length : Int)] ++ numsS l).size ∧ l.length ≤ 9 ∧ ∀ x ∈ l, 0 ≤ x ∧ x ≤ 64 := by
  unfold listP at h
  cases e1 : numP s p 9 with
  | none => rw [e1] at h; cases h
  | some a =>
    rw [e1, Option.bind_some] at h
    obtain ⟨a1, a2, a3, a4⟩ := num_on (y := a.1) (q := a.2) e1
    obtain ⟨b1, b2, b3, b4⟩ := items_on a.1 a.2 h
    rw [b3, one_numS]
    exact ⟨On.app.2 ⟨a1, by rw [← a2]; exact b1⟩, by rw [b2, a2, ByteArray.size_append]; omega, by omega, b4⟩
theorem refs_on {s : ByteArray} : ∀ (n p : Nat) {l : List Rf} {q : Nat}, refsIt s n p = some (l, q) → On s p (refsS l) ∧ q = p + (refsS l).size ∧ l.length = n ∧ ∀ r ∈ l, 0 ≤ r.f0 ∧ r.f0 ≤ 4611686018427387904 ∧ 0 ≤ r.f1 ∧ r.f1 ≤ 4611686018427387904 ∧ 0 ≤ r.f2 ∧ r.f2 ≤ 4294967295
  | 0, p, l, q, h => by
    injection h with h
    injection h with h1 h2
    subst h1
    exact ⟨on_empty s p, h2.symm, rfl, fun x hx => (List.not_mem_nil hx).elim⟩
  | n + 1, p, l, q, h => by
    unfold refsIt at h
    cases e1 : refP s p with
    | none => rw [e1] at h; cases h
    | some a =>
      rw [e1, Option.bind_some] at h
      cases e2 : refsIt s n a.2 with
      | none => rw [e2] at h; cases h
      | some b =>
        rw [e2, Option.bind_some] at h
        injection h with h
        injection h with h4 h5
        obtain ⟨a1, a2, a3⟩ := ref_on (r := a.1) (q := a.2) e1
        obtain ⟨b1, b2, b3, b4⟩ := refs_on n a.2 (l := b.1) (q := b.2) e2
        subst h4
        refine ⟨On.app.2 ⟨a1, by rw [← a2]; exact b1⟩, by rw [← h5, b2, a2]; show _ = p + (refS a.1 ++ refsS b.1).size; rw [ByteArray.size_append]; omega, by rw [List.length_cons, b3], fun x hx => ?_⟩
        rcases List.mem_cons.1 hx with rfl | hx
        · exact a3
        · exact b4 x hx
theorem snaps_on {s : ByteArray} : ∀ (n p : Nat) {l : List (List Int)} {q : Nat}, snapsIt s n p = some (l, q) → On s p (snapsS l) ∧ q = p + (snapsS l).size ∧ l.length = n ∧ ∀ r ∈ l, r.length ≤ 9 ∧ ∀ x ∈ r, 0 ≤ x ∧ x ≤ 4611686018427387904
  | 0, p, l, q, h => by
    injection h with h
    injection h with h1 h2
    subst h1
    exact ⟨on_empty s p, h2.symm, rfl, fun x hx => (List.not_mem_nil hx).elim⟩
  | n + 1, p, l, q, h => by
    unfold snapsIt at h
    cases e1 : listP s p with
    | none => rw [e1] at h; cases h
    | some a =>
      rw [e1, Option.bind_some] at h
      cases e2 : snapsIt s n a.2 with
      | none => rw [e2] at h; cases h
      | some b =>
        rw [e2, Option.bind_some] at h
        injection h with h
        injection h with h4 h5
        obtain ⟨a1, a2, a3, a4⟩ := list_on (l := a.1) (q := a.2) e1
        obtain ⟨b1, b2, b3, b4⟩ := snaps_on n a.2 (l := b.1) (q := b.2) e2
        subst h4
        refine ⟨On.app.2 ⟨a1, by rw [← a2]; exact b1⟩, by rw [← h5, b2, a2]; show _ = p + ((numsS [(a.1.length : Int)] ++ numsS a.1) ++ snapsS b.1).size; rw [ByteArray.size_append (a := numsS [(a.1.length : Int)] ++ numsS a.1)]; omega, by rw [List.length_cons, b3], fun x hx => ?_⟩
        rcases List.mem_cons.1 hx with rfl | hx
        · exact ⟨a3, fun y hy => by have := a4 y hy; omega⟩
        · exact b4 x hx
theorem parts_on {s : ByteArray} {p q : Nat} {m : Man} (h : partsP s p = some (m, q)) : On s p (layM m) ∧ q = p + (layM m).size ∧ (m.stack.length ≤ 8 → Fits m) ∧ m.refs.length ≤ 64 ∧ m.stack.length ≤ 9 ∧ m.snaps.length ≤ 16 := by
  unfold partsP at h
  cases e1 : refsP s p with
  | none => rw [e1] at h; cases h
  | some a =>
    rw [e1, Option.bind_some] at h
    cases e2 : listP s a.2 with
    | none => rw [e2] at h; cases h
    | some b =>
      rw [e2, Option.bind_some] at h
      cases e3 : numP s b.2 64 with
      | none => rw [e3] at h; cases h
      | some c =>
        rw [e3, Option.bind_some] at h
        cases e4 : numP s c.2 16 with
        | none => rw [e4] at h; cases h
        | some d =>
          rw [e4, Option.bind_some] at h
          cases e5 : snapsIt s d.1 d.2 with
          | none => rw [e5] at h; cases h
          | some f =>
            rw [e5, Option.bind_some] at h
            injection h with h
            injection h with h4 h5
            unfold refsP at e1
            cases e0 : numP s p 64 with
            | none => rw [e0] at e1; cases e1
            | some z =>
              rw [e0, Option.bind_some] at e1
              obtain ⟨z1, z2, z3, z4⟩ := num_on (y := z.1) (q := z.2) e0
              obtain ⟨a1, a2, a3, a4⟩ := refs_on z.1 z.2 (l := a.1) (q := a.2) e1
              obtain ⟨b1, b2, b3, b4⟩ := list_on (l := b.1) (q := b.2) e2
              obtain ⟨c1, c2, c3, c4⟩ := num_on (y := c.1) (q := c.2) e3
              obtain ⟨d1, d2, d3, d4⟩ := num_on (y := d.1) (q := d.2) e4
              obtain ⟨f1, f2, f3, f4⟩ := snaps_on d.1 d.2 (l := f.1) (q := f.2) e5
              subst h4
              have eT : layM ⟨a.1, b.1, (c.1 : Int) - 1, f.1⟩ = numS z.1 ++ refsS a.1 ++ ((numsS [(b.1.length : Int)] ++ numsS b.1) ++ (numS c.1 ++ numS d.1)) ++ snapsS f.1 := by
                unfold layM midS
                show numsS [(a.1.length : Int)] ++ refsS a.1 ++ (numsS [(b.1.length : Int)] ++ numsS b.1 ++ (numS ((c.1 : Int) - 1 + 1).toNat ++ (numS ((f.1.length : Int)).toNat ++ (⟨#[]⟩ : ByteArray)))) ++ snapsS f.1 = _
                rw [a3, one_numS, f3, append_empty, show ((c.1 : Int) - 1 + 1).toNat = c.1 by omega, Int.toNat_natCast]
              have hsz : (numS z.1 ++ refsS a.1 ++ ((numsS [(b.1.length : Int)] ++ numsS b.1) ++ (numS c.1 ++ numS d.1)) ++ snapsS f.1).size = (numS z.1).size + (refsS a.1).size + ((numsS [(b.1.length : Int)] ++ numsS b.1).size + ((numS c.1).size + (numS d.1).size)) + (snapsS f.1).size := by
                rw [ByteArray.size_append, ByteArray.size_append, ByteArray.size_append, ByteArray.size_append, ByteArray.size_append (a := numS c.1)]
              rw [eT]
              refine ⟨?_, by rw [hsz, ← h5]; omega, fun h8 => ⟨a4, fun x hx => by have := b4 x hx; omega, by show -1 ≤ (c.1 : Int) - 1; omega, by show (c.1 : Int) - 1 ≤ 1000000; omega, f4, by show a.1.length ≤ 64; omega, h8, by show f.1.length ≤ 16; omega⟩, by show a.1.length ≤ 64; omega, b3, by show f.1.length ≤ 16; omega⟩
              refine On.app.2 ⟨On.app.2 ⟨On.app.2 ⟨z1, by rw [← z2]; exact a1⟩, On.app.2 ⟨?_, On.app.2 ⟨?_, ?_⟩⟩⟩, ?_⟩
              · rw [ByteArray.size_append]
                have : p + ((numS z.1).size + (refsS a.1).size) = a.2 := by omega
                rw [this]; exact b1
              · rw [ByteArray.size_append]
                have : p + ((numS z.1).size + (refsS a.1).size) + (numsS [(b.1.length : Int)] ++ numsS b.1).size = b.2 := by omega
                rw [this]; exact c1
              · rw [ByteArray.size_append]
                have : p + ((numS z.1).size + (refsS a.1).size) + (numsS [(b.1.length : Int)] ++ numsS b.1).size + (numS c.1).size = c.2 := by omega
                rw [this]; exact d1
              · rw [ByteArray.size_append, ByteArray.size_append, ByteArray.size_append (a := numsS [(b.1.length : Int)] ++ numsS b.1), ByteArray.size_append (a := numS c.1)]
                have : p + ((numS z.1).size + (refsS a.1).size + ((numsS [(b.1.length : Int)] ++ numsS b.1).size + ((numS c.1).size + (numS d.1).size))) = d.2 := by omega
                rw [this]; exact f1
theorem litL (A : Option Addr) (n c : Nat) (W : World) : (Instr.buildSlice 41 1 #[(0, .slice A n c)]).run Tryz.prog W = .ok (.slice (some ⟨W.heap.size, 0, none⟩) 1 1) (W.alloc (.cells #[.slice A n c] 40 (0, 0))) := by kernel_rfl
theorem exec_litL {r : Operand → Value} {o : Oper} {x : Operand} {A : Option Addr} {n c : Nat} (ho : o.op = .buildSlice 41 1 #[(0, x)]) (hx : r x = .slice A n c) (W : World) : (execOp r o).run Tryz.prog W = .ok (.value (.slice (some ⟨W.heap.size, 0, none⟩) 1 1)) (W.alloc (.cells #[.slice A n c] 40 (0, 0))) := by
  have h2 := litL A n c W
  unfold execOp
  simp only [ho]
  have e : (#[((0 : Nat), x)] : Array (Nat × Operand)).map (fun (y : Nat × Operand) => (y.1, r y.2)) = #[(0, .slice A n c)] := by simp [hx]
  show (Sem.run _ (do let v ← Instr.buildSlice _ 1 (Array.map _ _); _) _) = _
  rw [e, Sem.run_bind, h2]
  rfl
theorem infoI : (Tryz.prog.info? 3).map (fun i => (i.zero, i.size, i.bytes)) = some (some (.int .i64 0), 1, 8) := by kernel_rfl
theorem infoV : (Tryz.prog.info? 40).map (fun i => (i.zero, i.size, i.bytes)) = some (some (.slice none 0 0), 1, 24) := by kernel_rfl
theorem readsL (w : World) (g : Nat) (v : Value) (l : List Int) (M : List Int → List Value → Prop) (h : w.heap[g]? = some (.cells #[v] 40 (0, 0))) (hM : M l [v]) : ReadsRow M lk.sz w (some ⟨g, 0, none⟩) 1 [l] := by
  refine ⟨rfl, by decide, fun _ => ⟨⟨g, 0, none⟩, rfl, fun j x hj => ?_⟩⟩
  have hj0 : j = 0 := by
    have := (List.getElem?_eq_some_iff.1 hj).1
    simp at this; exact this
  subst hj0
  cases hj
  refine ⟨[v], rfl, hM, fun i u hi => ?_⟩
  have hi0 : i = 0 := by
    have := (List.getElem?_eq_some_iff.1 hi).1
    simp at this; exact this
  subst hi0
  cases hi
  exact Err.cell_of_blk h 0
section
variable {B wr w1 : World} {O g : Nat} {c0 c1 c2 c3 d0 d1 d2 d3 u v v2 : Value}
theorem row_grown {α β : Type} {d : Kd α} {d2 : Kd β} {e e2 : Nat} {base base2 : Nat} {xs : List α} {ys : List β} (hv : d.R e wr base (fun _ => True) v xs) (hE : d.E = []) (h2 : d2.R e2 wr base2 (fun _ => True) v2 ys) (hg : wr.grownBy w1 v2.ownBlock) (he : e ≠ e2) : d.R e w1 base (fun _ => True) v xs :=
  Kd.R_grown2 hv hE hg (fun k hk hne => by
    obtain ⟨c1, h1⟩ := Kd.R_typed hv k hne.symm
    obtain ⟨c2, h3⟩ := Kd.R_typed h2 k hk
    rw [h1] at h3
    simp at h3
    exact he h3.2)
end
theorem own_apart {α β : Type} {d : Kd α} {d2 : Kd β} {e e2 base base2 : Nat} {w : World} {v v2 : Value} {xs : List α} {ys : List β} (h1 : d.R e w base (fun _ => True) v xs) (h2 : d2.R e2 w base2 (fun _ => True) v2 ys) (he : e ≠ e2) : ∀ k, v.ownBlock = some k → v2.ownBlock ≠ some k := fun k hk hk2 => by
  obtain ⟨c1, g1⟩ := Kd.R_typed h1 k hk
  obtain ⟨c2, g2⟩ := Kd.R_typed h2 k hk2
  rw [g1] at g2
  simp at g2
  exact he g2.2
theorem mod_b {S : Nat → Prop} {a b c : World} {B : Nat} (h : Mod S a b) (k : Below B b c) (hB : a.heap.size ≤ B) : Mod S a c :=
  ⟨k.os.trans h.os, k.tape.trans h.tape, k.output.trans h.output, Nat.le_trans h.size k.size, fun i hi hs => (k.block i (Nat.lt_of_lt_of_le hi hB)).trans (h.block i hi hs)⟩
theorem has_b {w w' : World} {R B : Nat} {s : ByteArray} {p : Nat} (h : Has w R s p) (k : Below B w w') (hB : R < B) : Has w' R s p := (k.block R hB).trans h
theorem row_R {α : Type} {d : Kd α} {e base R : Nat} {w w' : World} {v : Value} {xs : List α} (h : d.R e w base (fun _ => True) v xs) (hE : d.E = []) (k : Mod (· = R) w w') (hR : R < base) : d.R e w' base (fun _ => True) v xs :=
  row_on hE h k (fun b hb (e2 : b = R) => by have := Kd.R_base h b hb; omega)
set_option maxHeartbeats 4000000 in
set_option maxRecDepth 100000 in
theorem list_c (R : Nat) (s : ByteArray) (p : Nat) (w : World) (h : Hid (Has w R s p)) (hs : s.size ≤ 4611686018427387904) :
    Calls Tryz.prog 90 #[.pointer (some ⟨R, 0, none⟩)] w fun ev w' => Mod (· = R) w w' ∧ ((∃ l q v, listP s p = some (l, q) ∧ ev = .returned (.tuple #[v, .nilIface]) ∧ (Kd.int .i64).R 3 w' w.heap.size (fun _ => True) v l ∧ Has w' R s q) ∨ (listP s p = none ∧ (∃ T x, ev = .returned (.tuple #[.slice none 0 0, .iface T x]) ∧ IsErr w' (.iface T x) 13) ∧ ∃ q, Has w' R s q)) := by
  have hRl : R < w.heap.size := Err.lt_of_block h.out
  obtain ⟨U, hU⟩ : ∃ U, listP s p = U := ⟨_, rfl⟩
  have HU := Lib.hid hU
  rw [hU]
  clear hU
  go_enter Tryz.func90, Tryz.ntmps90
  go_wp2_with fail
  refine (Rdr.num_any R s p 9 w h hs).mono ?_
  rintro e w2 ⟨n0, e0, q0, rfl, ha, hm, hh⟩
  have HM2 := Lib.hid hm
  have HH2 := Lib.hid hh
  rcases numAt_P ha with ⟨n, hn, rfl, rfl, hn9⟩ | ⟨hn, rfl, T, x, rfl, hi⟩
  · have HU2 := Lib.hid (show (itemsP s n q0).bind (fun b => some ([] ++ b.1, b.2)) = U by
      rw [← HU.out]
      unfold listP
      rw [hn, Option.bind_some]
      show (itemsP s n q0).bind _ = itemsP s n q0
      cases itemsP s n q0 <;> rfl)
    clear hn ha hm hh HU
    go_wp2_with fail
    go_loopg [6, 18] n (fun kq v6 v18 wr => ∃ (i : Nat) (acc : List Int) (q : Nat), v18 = .int .i64 (i : Int) ∧ kq + i = n ∧ acc.length = i ∧ Hid ((Kd.int .i64).R 3 wr w.heap.size (fun _ => True) v6 acc) ∧ Hid (Has wr R s q) ∧ Hid (Mod (· = R) w wr) ∧ Hid ((itemsP s kq q).bind (fun b => some (acc ++ b.1, b.2)) = U))
    case atStart => exact ⟨0, [], q0, rfl, rfl, rfl, Lib.hid (Kd.R_nil _ _ _ _ _), HH2, HM2, HU2⟩
    case round =>
      clear HH2 HM2 HU2
      obtain ⟨i, acc, q, rfl, hk, hacc, HR, HH, HM, HU⟩ := hrel
      generalize wr = w3 at *
      obtain ⟨vx, vn, vc, rfl⟩ := r_sl HR.out
      cases gk with
      | zero =>
        have c1 : decide ((i : Int) < (n : Int)) = false := decide_eq_false (by omega)
        have c1b : decide (i < n) = false := decide_eq_false (by omega)
        have HU3 := Lib.hid (show some (acc, q) = U by rw [← HU.out]; show _ = some (acc ++ [], q); rw [List.append_nil])
        clear HU hk
        go_wp2_with fail
        go_ret2
        exact ⟨HM.out, .inl ⟨acc, q, _, HU3.out.symm, rfl, HR.out, HH.out⟩⟩
      | succ k1 =>
        have hin : i < n := by omega
        have c1 : decide ((i : Int) < (n : Int)) = true := decide_eq_true (by omega)
        have c1b : decide (i < n) = true := decide_eq_true hin
        have q5 : IntKind.i64.wrap ((i : Int) + 1) = (i : Int) + 1 := IntWalk.i64_in _ (by omega)
        go_wp2_with fail
        refine (Rdr.num_any R s q 64 w3 HH hs).mono ?_
        rintro e w4 ⟨n1, e1, q1, rfl, ha, hm, hh⟩
        have HM4 := Lib.hid (HM.out.tr hm)
        have HH4 := Lib.hid hh
        have HR4 := Lib.hid (row_R HR.out rfl hm hRl)
        rcases numAt_P ha with ⟨y, hy, rfl, rfl, hy64⟩ | ⟨hy, rfl, T, x, rfl, hi⟩
        · have HU4 := Lib.hid (show (itemsP s k1 q1).bind (fun b => some ((acc ++ [(y : Int)]) ++ b.1, b.2)) = U by
            rw [← HU.out]
            show _ = ((numP s q 64).bind fun a => (itemsP s k1 a.2).bind fun b => some ((a.1 : Int) :: b.1, b.2)).bind (fun b => some (acc ++ b.1, b.2))
            rw [hy, Option.bind_some]
            cases itemsP s k1 q1 with
            | none => rfl
            | some b => show some ((acc ++ [(y : Int)]) ++ b.1, b.2) = some (acc ++ ((y : Int) :: b.1), b.2); rw [List.append_assoc]; rfl)
          clear ha hm hh hy HR HH HM HU
          have hb5 : Below w4.heap.size w4 (w4.alloc (.cells #[.int .i64 (y : Int)] 3 (0, 0))) := (Below.refl _ _).alloc (Nat.le_refl _) _
          have hL5 := heap_alloc_last w4 (.cells #[.int .i64 (y : Int)] 3 (0, 0))
          have HC5 := Lib.hid (c_ints [(y : Int)] hL5 rfl (by simp) (by simp))
          have HR5 := Lib.hid (Kd.R_below HR4.out hb5)
          have HH5 := Lib.hid (has_b HH4.out hb5 (Err.lt_of_block HH4.out))
          have HM5 := Lib.hid (HM4.out.on_below hb5 (Nat.le_refl _))
          have hsz5 : w.heap.size ≤ (w4.alloc (.cells #[.int .i64 (y : Int)] 3 (0, 0))).heap.size := HM5.out.size
          clear hL5 hb5 HR4 HH4 HM4
          go_wp2_with (first
            | (refine wl_litI (y : Int) rfl _ rfl rfl ?_)
            | (at_builtin
               refine Kd.R_append_rows (Kd.int .i64) (w0 := w4.alloc (.cells #[.int .i64 (y : Int)] 3 (0, 0))) w.heap.size rfl (.tmp 28) (.tmp 30) 40 3 (.int .i64 0) 8 rfl Tryz.underlying40 infoI rfl (by decide) (by decide) (.slice vx vn vc) acc [(y : Int)] _ _ _ (fun _ => True) (fun _ => False) rfl rfl HR5.out HC5.out (fun _ _ h => h) (fun _ h => h.elim) (fun _ _ => trivial) (Below.refl _ _) hsz5 (by omega) ?_
               intro v8 w8 ho hb hg hn))
          have HR8 := Lib.hid ho
          have HH8 := Lib.hid (has_b HH5.out hb hRl)
          have HM8 := Lib.hid (mod_b HM5.out hb (Nat.le_refl _))
          clear ho hb hg hn HR5 HH5 HM5 HC5
          go_roundg k1
          case measure => exact Nat.lt_succ_self _
          case rel => exact ⟨i + 1, acc ++ [(y : Int)], q1, by simp, by omega, by rw [List.length_append, hacc]; rfl, HR8, HH8, HM8, HU4⟩
        · have HU4 := Lib.hid (show U = none by
            rw [← HU.out]
            show ((numP s q 64).bind fun a => (itemsP s k1 a.2).bind fun b => some ((a.1 : Int) :: b.1, b.2)).bind (fun b => some (acc ++ b.1, b.2)) = none
            rw [hy]; rfl)
          have HE := Lib.hid hi
          clear ha hm hh hy hi HR HH HM HU
          go_wp2_with fail
          go_ret2
          exact ⟨HM4.out, .inr ⟨HU4.out, ⟨T, x, rfl, HE.out⟩, q1, HH4.out⟩⟩
  · have HU2 := Lib.hid (show U = none by
      rw [← HU.out]
      unfold listP
      rw [hn]; rfl)
    have HE := Lib.hid hi
    clear hn ha hm hh hi HU
    go_wp2_with fail
    go_ret2
    exact ⟨HM2.out, .inr ⟨HU2.out, ⟨T, x, rfl, HE.out⟩, q0, HH2.out⟩⟩
section
variable {ops : Array Oper} {rest : List Oper} {o : Oper} {a : Go.Act} {w : World} {Q : Exit → Go.Act → World → Prop}
theorem wl_litR (r : Rf) (hgd : o.guard = none) (x : Operand) (ho : o.op = .buildSlice 33 1 #[(0, x)]) (hx : a.eval x = .agg (ra r)) (h : wpList Tryz.prog ops Q rest (a.put o.dst (.slice (some ⟨w.heap.size, 0, none⟩) 1 1)) (w.alloc (.cells (ra r) 36 (0, 0)))) : wpList Tryz.prog ops Q (o :: rest) a w :=
  Kd.event_run hgd (exec_litR (a := r.f0) (b := r.f1) (c := r.f2) ho hx w) h
end
set_option maxHeartbeats 4000000 in
set_option maxRecDepth 100000 in
theorem refs_c (R : Nat) (s : ByteArray) (p : Nat) (w : World) (h : Hid (Has w R s p)) (hs : s.size ≤ 4611686018427387904) :
    Calls Tryz.prog 89 #[.pointer (some ⟨R, 0, none⟩)] w fun ev w' => Mod (· = R) w w' ∧ ((∃ l q v, refsP s p = some (l, q) ∧ ev = .returned (.tuple #[v, .nilIface]) ∧ rk.R 36 w' w.heap.size (fun _ => True) v l ∧ Has w' R s q) ∨ (refsP s p = none ∧ (∃ T x, ev = .returned (.tuple #[.slice none 0 0, .iface T x]) ∧ IsErr w' (.iface T x) 13) ∧ ∃ q, Has w' R s q)) := by
  have hRl : R < w.heap.size := Err.lt_of_block h.out
  obtain ⟨U, hU⟩ : ∃ U, refsP s p = U := ⟨_, rfl⟩
  have HU := Lib.hid hU
  rw [hU]
  clear hU
  go_enter Tryz.func89, Tryz.ntmps89
  go_wp2_with fail
  refine (Rdr.num_any R s p 64 w h hs).mono ?_
  rintro e w2 ⟨n0, e0, q0, rfl, ha, hm, hh⟩
  have HM2 := Lib.hid hm
  have HH2 := Lib.hid hh
  rcases numAt_P ha with ⟨n, hn, rfl, rfl, hn9⟩ | ⟨hn, rfl, T, x, rfl, hi⟩
  · have HU2 := Lib.hid (show (refsIt s n q0).bind (fun b => some ([] ++ b.1, b.2)) = U by
      rw [← HU.out]
      unfold refsP
      rw [hn, Option.bind_some]
      show (refsIt s n q0).bind _ = refsIt s n q0
      cases refsIt s n q0 <;> rfl)
    clear hn ha hm hh HU
    go_wp2_with fail
    go_loopg [6, 18] n (fun kq v6 v18 wr => ∃ (i : Nat) (acc : List Rf) (q : Nat), v18 = .int .i64 (i : Int) ∧ kq + i = n ∧ acc.length = i ∧ Hid (rk.R 36 wr w.heap.size (fun _ => True) v6 acc) ∧ Hid (Has wr R s q) ∧ Hid (Mod (· = R) w wr) ∧ Hid ((refsIt s kq q).bind (fun b => some (acc ++ b.1, b.2)) = U))
    case atStart => exact ⟨0, [], q0, rfl, rfl, rfl, Lib.hid (Kd.R_nil _ _ _ _ _), HH2, HM2, HU2⟩
    case round =>
      clear HH2 HM2 HU2
      obtain ⟨i, acc, q, rfl, hk, hacc, HR, HH, HM, HU⟩ := hrel
      generalize wr = w3 at *
      obtain ⟨vx, vn, vc, rfl⟩ := r_sl HR.out
      cases gk with
      | zero =>
        have c1 : decide ((i : Int) < (n : Int)) = false := decide_eq_false (by omega)
        have c1b : decide (i < n) = false := decide_eq_false (by omega)
        have HU3 := Lib.hid (show some (acc, q) = U by rw [← HU.out]; show _ = some (acc ++ [], q); rw [List.append_nil])
        clear HU hk
        go_wp2_with fail
        go_ret2
        exact ⟨HM.out, .inl ⟨acc, q, _, HU3.out.symm, rfl, HR.out, HH.out⟩⟩
      | succ k1 =>
        have hin : i < n := by omega
        have c1 : decide ((i : Int) < (n : Int)) = true := decide_eq_true (by omega)
        have c1b : decide (i < n) = true := decide_eq_true hin
        have q5 : IntKind.i64.wrap ((i : Int) + 1) = (i : Int) + 1 := IntWalk.i64_in _ (by omega)
        go_wp2_with fail
        refine (Rdr.bread_c R s q w3 HH hs).mono ?_
        rintro e w4 ⟨v1, e1, rfl, ha, hm, hq⟩
        have HM4 := Lib.hid (HM.out.tr hm)
        have HR4 := Lib.hid (row_R HR.out rfl hm hRl)
        rcases refAt_P ha hq with ⟨r, q1, hy, rfl, rfl, hh⟩ | ⟨hy, rfl, ⟨T, x, rfl, hi⟩, q1, hh⟩
        · have HH4 := Lib.hid hh
          have HU4 := Lib.hid (show (refsIt s k1 q1).bind (fun b => some ((acc ++ [r]) ++ b.1, b.2)) = U by
            rw [← HU.out]
            show _ = ((refP s q).bind fun a => (refsIt s k1 a.2).bind fun b => some (a.1 :: b.1, b.2)).bind (fun b => some (acc ++ b.1, b.2))
            rw [hy, Option.bind_some]
            cases refsIt s k1 q1 with
            | none => rfl
            | some b => show some ((acc ++ [r]) ++ b.1, b.2) = some (acc ++ (r :: b.1), b.2); rw [List.append_assoc]; rfl)
          clear ha hm hh hq hy HR HH HM HU
          go_upto_region 8 with (first
            | (refine wl_allocR rfl rfl ?_)
            | (refine wl_storeRn #[.int .i64 0, .int .i64 0, .int .u32 0] rfl r rfl _ _ rfl rfl rfl ?_))
          have hb5 : Below w4.heap.size w4 (w4.alloc (Obj.cells (ra r) 36 (0, 0))) := (Below.refl _ _).alloc (Nat.le_refl _) _
          have HK5 := Lib.hid (heap_alloc_last w4 (Obj.cells (ra r) 36 (0, 0)))
          have HR5 := Lib.hid (Kd.R_below HR4.out hb5)
          have HH5 := Lib.hid (has_b HH4.out hb5 (Err.lt_of_block HH4.out))
          have HM5 := Lib.hid (HM4.out.on_below hb5 (Nat.le_refl _))
          obtain ⟨K, hK⟩ : ∃ K, w4.heap.size = K := ⟨_, rfl⟩
          rw [hK] at HK5
          simp only [hK]
          generalize (w4.alloc (Obj.cells (ra r) 36 (0, 0))) = w5 at *
          clear hb5 hK HR4 HH4 HM4
          have hb6 : Below w5.heap.size w5 (w5.alloc (.cells (ra r) 36 (0, 0))) := (Below.refl _ _).alloc (Nat.le_refl _) _
          have HL6 := Lib.hid (heap_alloc_last w5 (.cells (ra r) 36 (0, 0)))
          have HR6 := Lib.hid (Kd.R_below HR5.out hb6)
          have HH6 := Lib.hid (has_b HH5.out hb6 (Err.lt_of_block HH5.out))
          have HM6 := Lib.hid (HM5.out.on_below hb6 (Nat.le_refl _))
          have hsz6 : w.heap.size ≤ (w5.alloc (.cells (ra r) 36 (0, 0))).heap.size := HM6.out.size
          clear hb6 HR5 HH5 HM5
          go_wp2_with (first
            | (refine wl_loadR K r HK5.out rfl _ rfl rfl ?_)
            | (refine wl_litR r rfl _ rfl rfl ?_)
            | (at_builtin
               refine Kd.R_append_rows rk (w0 := w5.alloc (.cells (ra r) 36 (0, 0))) w.heap.size rfl (.tmp 28) (.tmp 30) 33 36 (.agg #[.int .i64 0, .int .i64 0, .int .u32 0]) 24 rfl Tryz.underlying33 infoR rfl (by decide) (by decide) (.slice vx vn vc) acc [r] _ _ _ (fun _ => True) (fun _ => False) rfl rfl HR6.out (readsR _ _ r HL6.out) (fun y cs hy => by subst hy; exact k36_mkM _ _ _ _) (fun _ h => h.elim) (fun _ _ => trivial) (Below.refl _ _) hsz6 (by omega) ?_
               intro v8 w8 ho hb hg hn))
          have HR8 := Lib.hid ho
          have HH8 := Lib.hid (has_b HH6.out hb hRl)
          have HM8 := Lib.hid (mod_b HM6.out hb (Nat.le_refl _))
          clear ho hb hg hn HR6 HH6 HM6 HL6 HK5
          go_roundg k1
          case measure => exact Nat.lt_succ_self _
          case rel => exact ⟨i + 1, acc ++ [r], q1, by simp, by omega, by rw [List.length_append, hacc]; rfl, HR8, HH8, HM8, HU4⟩
        · have HH4 := Lib.hid hh
          have HU4 := Lib.hid (show U = none by
            rw [← HU.out]
            show ((refP s q).bind fun a => (refsIt s k1 a.2).bind fun b => some (a.1 :: b.1, b.2)).bind (fun b => some (acc ++ b.1, b.2)) = none
            rw [hy]; rfl)
          have HE := Lib.hid hi
          clear ha hm hh hq hy hi HR HH HM HU
          go_upto_region 8 with (first
            | (refine wl_allocR rfl rfl ?_)
            | (refine wl_storeRn #[.int .i64 0, .int .i64 0, .int .u32 0] rfl ⟨0, 0, 0⟩ rfl _ _ rfl rfl rfl ?_))
          have hb5 : Below w4.heap.size w4 (w4.alloc (Obj.cells (ra ⟨0, 0, 0⟩) 36 (0, 0))) := (Below.refl _ _).alloc (Nat.le_refl _) _
          have HE5 := Lib.hid (HE.out.on hb5)
          have HH5 := Lib.hid (has_b HH4.out hb5 (Err.lt_of_block HH4.out))
          have HM5 := Lib.hid (HM4.out.on_below hb5 (Nat.le_refl _))
          generalize (w4.alloc (Obj.cells (ra ⟨0, 0, 0⟩) 36 (0, 0))) = w5 at *
          clear hb5 HE HH4 HM4
          go_wp2_with fail
          go_ret2
          exact ⟨HM5.out, .inr ⟨HU4.out, ⟨T, x, rfl, HE5.out⟩, q1, HH5.out⟩⟩
  · have HU2 := Lib.hid (show U = none by
      rw [← HU.out]
      unfold refsP
      rw [hn]; rfl)
    have HE := Lib.hid hi
    clear hn ha hm hh hi HU
    go_wp2_with fail
    go_ret2
    exact ⟨HM2.out, .inr ⟨HU2.out, ⟨T, x, rfl, HE.out⟩, q0, HH2.out⟩⟩
end Go.Proofs.YtaodgnladjafoaaGreatDoor.Mni
