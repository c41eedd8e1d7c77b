/- Words that the proof uses. -/
import Derived.Test.YtaodgnladjafoaaGreatDoorLast3V
import Derived.Test.YtaodgnladjafoaaGreatDoorFmtBV
set_option linter.unusedVariables false
set_option linter.unusedSimpArgs false
namespace Go.Proofs.YtaodgnladjafoaaGreatDoor.Sto
open Go.RowKit Go.Proofs.YtaodgnladjafoaaGreatDoorW.PrintWords Go.Proofs.YtaodgnladjafoaaGreatDoorW.PrintLast Go.Proofs.YtaodgnladjafoaaGreatDoorW.PrintMore Go.Proofs.YtaodgnladjafoaaGreatDoor.Md Go.Proofs.YtaodgnladjafoaaGreatDoor.Mni Go.Proofs.YtaodgnladjafoaaGreatDoor.QStoreLasts
open Go.Proofs.YtaodgnladjafoaaGreatDoor.Dk (Dsk IsD Ft mayN rd stl bit Pg)
open Go.Proofs.YtaodgnladjafoaaGreatDoor.Slt (Sl switched flushed bestOf slotOf pick)
open Go.Proofs.YtaodgnladjafoaaGreatDoor.Err (Laid IsErr code_nil code_c Chain at_some at_nil)
theorem few_a (A : Option Addr) (n c : Nat) (acts : List Ac) (b : Bool) (k : Nat) (w : World) (hn : acts.length = n) (hc : n ≤ c) (hC : Kd.C ack w A n acts) (hf : shalelaw21_few.f k acts = some b) :
    Calls Tryz.prog 30 #[.slice A n c] w fun e w' => e = .returned (.bool b) ∧ Below w.heap.size w w' := by
  subst hn
  refine (shalelaw21_few.calls k A c acts b w hC hc hf).mono ?_
  rintro e w' ⟨rfl, hd⟩
  exact ⟨rfl, hd.below⟩
section
variable {ops : Array Oper} {rest : List Oper} {o : Oper} {a : Go.Act} {w : World} {Q : Exit → Go.Act → World → Prop}
theorem sizeAc : (Tryz.prog.info? 71).map (·.size) = some 4 := by kernel_rfl
theorem xa_one (x : Ac) : ((xa x).all fun x => x.oneCell') = true := by simp [xa, Value.oneCell']
theorem wl_loadAc (p : Addr) (x : Ac) (h0 : w.cell? p = some (.int .u8 x.f0)) (h1 : w.cell? ⟨p.block, p.off + 1, none⟩ = some (.string x.f1)) (h2 : w.cell? ⟨p.block, p.off + 2, none⟩ = some (.int .u8 x.f2)) (h3 : w.cell? ⟨p.block, p.off + 3, none⟩ = some (.int .u64 x.f3)) (hgd : o.guard = none) (p_ : Operand) (ho : o.op = .load 71 p_) (hx : a.eval p_ = .pointer (some p))
    (h : wpList Tryz.prog ops Q rest (a.put o.dst (.agg (xa x))) w) : wpList Tryz.prog ops Q (o :: rest) a w := by
  refine Kd.event_run (v := .agg (xa x)) (w1 := w) hgd ?_ h
  have hl : (loadCells p 4).run Tryz.prog w = .ok (xa x) w := run_loadCells_list (P := Tryz.prog) w p [.int .u8 x.f0, .string x.f1, .int .u8 x.f2, .int .u64 x.f3] (fun j v hj => by
    rcases j with _ | _ | _ | _ | j
    · cases hj; exact h0
    · cases hj; rw [show p.add (0 + 1) = ⟨p.block, p.off + 1, none⟩ from by unfold Addr.add; rw [if_neg (by omega)]]; exact h1
    · cases hj; rw [show p.add (0 + 1 + 1) = ⟨p.block, p.off + 2, none⟩ from by unfold Addr.add; rw [if_neg (by omega)]]; exact h2
    · cases hj; rw [show p.add (0 + 1 + 1 + 1) = ⟨p.block, p.off + 3, none⟩ from by unfold Addr.add; rw [if_neg (by omega)]]; exact h3
    · simp at hj)
  have hagg := Tryz.isAgg71
  have hi := sizeAc
  have hrun : (Instr.loadAt 71 (.pointer (some p))).run Tryz.prog w = .ok (.agg (xa x)) w := by
    cases hq : Tryz.prog.info? 71 with
    | none => rw [hq] at hi; simp at hi
    | some i =>
      have hs : i.size = 4 := by rw [hq] at hi; simpa using hi
      simp only [Instr.loadAt, Instr.sureAddr, Sem.run_bind, Sem.run_pure, Result.andThen_ok]
      simp [loadVar, Sem.run_bind, hagg, sizeOf, typeInfo, hq, hs, hl]
  unfold execOp
  simp only [ho, hx, hrun, Sem.run_bind, Sem.run_pure, Result.andThen_ok]
theorem wl_allocAc (hgd : o.guard = none) (ho : o.op = .alloc 71) (h : wpList Tryz.prog ops Q rest (a.put o.dst (.pointer (some ⟨w.heap.size, 0, none⟩))) (w.alloc (Obj.cells #[.int .u8 0, .string ⟨#[]⟩, .int .u8 0, .int .u64 0] 71 (0, 0)))) : wpList Tryz.prog ops Q (o :: rest) a w :=
  Kd.event_run hgd (by unfold execOp; simp only [ho]; kernel_rfl) h
theorem wl_storeAcn {W : World} (cs0 : Array Value) (hcs : cs0.size = 4) (x : Ac) (hgd : o.guard = none) (p_ q_ : Operand) (ho : o.op = .store 71 p_ q_) (hx : a.eval p_ = .pointer (some ⟨W.heap.size, 0, none⟩)) (hy : a.eval q_ = .agg (xa x))
    (h : wpList Tryz.prog ops Q rest (a.put o.dst undef) (W.alloc (Obj.cells (xa x) 71 (0, 0)))) : wpList Tryz.prog ops Q (o :: rest) a (W.alloc (Obj.cells cs0 71 (0, 0))) := by
  refine wpList_plain hgd fun K hK => ?_
  have hrun : (Instr.storeAt 71 (.pointer (some ⟨W.heap.size, 0, none⟩)) (.agg (xa x))).run Tryz.prog (W.alloc (Obj.cells cs0 71 (0, 0))) = .ok () ((W.alloc (Obj.cells cs0 71 (0, 0))).setRow W.heap.size (xa x)) := by
    simp only [Instr.storeAt, Instr.sureAddr, Sem.run_bind, Sem.run_pure, Result.andThen_ok]
    exact run_storeVar_row _ W.heap.size 71 71 cs0 (xa x) (heap_alloc_last _ _) sizeAc (by rw [hcs]; rfl) (xa_one x)
  unfold Oper.wp execOp
  simp only [ho, hx, hy, Sem.run_bind, hrun, Result.andThen_ok]
  rw [World.setRow_alloc_new]
  exact hK _ _ h
end
set_option maxHeartbeats 2000000 in
set_option maxRecDepth 100000 in
theorem lasts_out (sz : Int) (A0 : Option Addr) (n c0 k0 : Nat) (acts : List Ac) (W : World) (hn : acts.length = n) (hc : n ≤ c0) (HA : Hid (Kd.C ack W A0 n acts)) (hf : Hid (shalelaw21_few.f k0 acts = some false)) :
    Calls Tryz.prog 6 #[.int .u8 sz, .slice A0 n c0] W fun e w' => e = .returned (.bool true) ∧ Below W.heap.size W w' := by
  have HN := Lib.hid hn
  clear hn
  go_enter Tryz.func6, Tryz.ntmps6
  go_wp2_with fail
  refine (awake_b W).mono ?_
  rintro e w1 ⟨rfl, hd⟩
  have HB1 := Lib.hid hd
  clear hd
  go_wp2_with fail
  refine (few_a A0 n c0 acts false k0 w1 HN.out hc (Kd.C_below HA.out HB1.out) hf.out).mono ?_
  rintro e w2 ⟨rfl, hd⟩
  have HB2 := below_to HB1 (Nat.le_refl _) hd
  clear hd HB1
  go_wp2_with fail
  refine (awake_b w2).mono ?_
  rintro e w3 ⟨rfl, hd⟩
  have HB3 := below_to HB2 (Nat.le_refl _) hd
  clear hd HB2
  go_wp2_with fail
  go_ret
  exact ⟨rfl, HB3.out⟩
set_option maxHeartbeats 16000000 in
set_option maxRecDepth 100000 in
theorem lasts_in (m : Nat) (A0 : Option Addr) (n c0 k0 : Nat) (acts : List Ac) (W : World) (hm : m ≤ 255) (hn : acts.length = n) (hc : n ≤ c0) (HA : Hid (Kd.C ack W A0 n acts)) (HW0 : Hid (∀ x ∈ acts, AcW x)) (HLW : Hid (Laid W)) (hf : Hid (shalelaw21_few.f k0 acts = some true)) (hn30 : n ≤ 30) :
    Calls Tryz.prog 6 #[.int .u8 (m : Int), .slice A0 n c0] W fun e w' => e = .returned (.bool true) ∧ Below W.heap.size W w' := by
  obtain ⟨N, hN⟩ : ∃ N, 8 + m = N := ⟨_, rfl⟩
  have h8 : 8 ≤ N := by omega
  have hN2 : N ≤ 2048 := by omega
  have HN := Lib.hid hn
  have q0 : IntKind.i64.wrap (m : Int) = (m : Int) := IntWalk.i64_in _ (by omega)
  have q1 : IntKind.i64.wrap (8 + (m : Int)) = (N : Int) := by rw [IntWalk.i64_in _ (by omega)]; omega
  clear hn hN
  go_enter Tryz.func6, Tryz.ntmps6
  go_wp2_with fail
  refine (awake_b W).mono ?_
  rintro e w1 ⟨rfl, hd⟩
  have HB1 := Lib.hid hd
  clear hd
  go_wp2_with fail
  refine (few_a A0 n c0 acts true k0 w1 HN.out hc (Kd.C_below HA.out HB1.out) hf.out).mono ?_
  rintro e w2 ⟨rfl, hd⟩
  have HB2 := below_to HB1 (Nat.le_refl _) hd
  clear hd HB1
  go_wp2_with fail
  refine (Dk.new_c w2 (N : Int) (by omega) (by omega)).mono ?_
  rintro e w3 ⟨R, M, hR, hM, rfl, hd, hi⟩
  have H3 := Lib.hid (show IsD w3 R M (.slice none 0 0) (d0 N) from hi)
  have HRM := Lib.hid (And.intro (Nat.le_trans HB2.out.size hR) (Nat.le_trans HB2.out.size hM))
  have HB3 := below_to HB2 (Nat.le_refl _) hd
  clear hR hM hd hi HB2 q0 q1
  go_wp2_with fail
  refine (Format_nb w3 R M _ N H3 h8 hN2).mono ?_
  rintro e w4 ⟨Z, H, o0, hZ, hH, rfl, hi, hm4⟩
  have HU4 : Hid (Run W w4 ⟨Z, R, M, H, .slice none 0 0, .slice none 0 0⟩ o0 (withM []) (sF N)) := Lib.hid (Run.new HB3.out HRM.out.1 HRM.out.2 hZ hH hm4 hi)
  have HL4 := Lib.hid (Lv.new (W := W) (A9 := none) (c9 := 0) (A11 := none) (c11 := 0) (ts2 := []) HU4.out (fun W' _ => (Kd.R_reads' (Kd.R_nil rk 36 W' 0 (fun _ => True))).2.2) (Nat.le_refl _) (fun W' _ => (Kd.R_reads' (Kd.R_nil Kd.string 9 W' 0 (fun _ => True))).2.2) (Nat.le_refl _))
  have HV0 := Lib.hid (show Vl N (sF N) [] [] [] [] 0 from ⟨G.start N h8 hN2, rfl, by show (-1 : Int) ≤ -1; decide, by show (-1 : Int) ≤ 20; decide, Nat.le_refl _, by show (1 : Int) ≤ 1 + ((0 : Nat) : Int); decide, Nat.le_refl _⟩)
  clear hZ hH hi hm4 H3 HB3 HRM HU4
  go_wp2_with fail
  refine (code_nil w4).mono ?_
  rintro e w5 ⟨rfl, hd⟩
  have HL5 := Lib.hid (HL4.out.on hd)
  clear hd HL4
  go_wp2_with fail
  refine (code_nil w5).mono ?_
  rintro e w6 ⟨rfl, hd⟩
  have HL6 := Lib.hid (HL5.out.on hd)
  clear hd HL5
  go_wp2_with fail
  go_loopg [7, 9, 10, 11, 12, 13] n (fun kq v7 v9 v10 v11 v12 v13 wr => ∃ (j Z H : Nat) (v p : Value) (o : Mni.Loc) (s : St) (rs : List Rf) (ts : List ByteArray) (pt : List Rf) (fs : List ByteArray) (A9 : Option Addr) (c9 : Nat) (A11 : Option Addr) (c11 : Nat), v7 = .pointer (some ⟨Z, 0, none⟩) ∧ v9 = .slice A9 rs.length c9 ∧ v11 = .slice A11 ts.length c11 ∧ v13 = .int .i64 (j : Int) ∧ kq + j = n ∧ Hid (Lv W wr ⟨Z, R, M, H, v, p⟩ o s rs ts pt fs A9 c9 A11 c11 v10 v12) ∧ Hid (Vl N s rs ts pt fs j))
  case atStart => exact ⟨0, Z, H, _, _, _, _, [], [], [], [], none, 0, none, 0, rfl, rfl, rfl, rfl, rfl, HL6, HV0⟩
  case round =>
    clear HL6 HV0
    obtain ⟨j, Z, H, v, p, o, s, rs, ts, pt, fs, A9, c9, A11, c11, rfl, rfl, rfl, rfl, hk, HL, HV⟩ := hrel
    cases gk with
    | zero =>
      have hj : j = n := by omega
      have d1 : decide ((j : Int) < (n : Int)) = false := decide_eq_false (by omega)
      have d1b : decide (j < n) = false := decide_eq_false (by omega)
      clear hk hj HA HW0 HV
      go_wp2_with fail
      go_ret
      exact ⟨rfl, HL.out.run.bel⟩
    | succ k1 =>
      have hj : j < n := by omega
      have hjl : j < acts.length := by rw [HN.out]; exact hj
      have d1 : decide ((j : Int) < (n : Int)) = true := decide_eq_true (by omega)
      have d1b : decide (j < n) = true := decide_eq_true hj
      have p1 : (0 ≤ (j : Int)) = True := eq_true (by omega)
      have p2 : ((j : Int) < (n : Int)) = True := eq_true (by omega)
      have q5 : IntKind.i64.wrap ((j : Int) + 1) = (j : Int) + 1 := IntWalk.i64_in _ (by omega)
      obtain ⟨ad, ead, x0, x1, x2, x3⟩ := at_T71 (Kd.C_below HA.out HL.out.run.bel) (j : Int) (by omega) (by omega)
      rw [rd_ac acts j hjl] at x0 x1 x2 x3
      simp only [Int.toNat_natCast] at x0 x1 x2 x3
      obtain ⟨x, hx⟩ : ∃ x, acts[j] = x := ⟨_, rfl⟩
      have hxw : AcW x := by rw [← hx]; exact HW0.out _ (List.getElem_mem hjl)
      rw [hx] at x0 x1 x2 x3
      have HX0 := Lib.hid x0
      have HX1 := Lib.hid x1
      have HX2 := Lib.hid x2
      have HX3 := Lib.hid x3
      obtain rfl : A0 = some ad := ead
      clear x0 x1 x2 x3 hx
      go_upto_region 13 with (first
        | (refine wl_loadAc (ad.add (j * 4)) x HX0.out HX1.out HX2.out HX3.out rfl _ rfl rfl ?_)
        | (refine wl_allocAc rfl rfl ?_)
        | (refine wl_storeAcn #[.int .u8 0, .string ⟨#[]⟩, .int .u8 0, .int .u64 0] rfl x rfl _ _ rfl rfl rfl ?_))
      have hd : Below wr.heap.size wr (wr.alloc (Obj.cells (xa x) 71 (0, 0))) := (Below.refl _ _).alloc (Nat.le_refl _) _
      have hb0 := heap_alloc_last wr (Obj.cells (xa x) 71 (0, 0))
      have hl0 := HL.out.run.is.lt
      have HL7 := Lib.hid (HL.out.on hd)
      obtain ⟨X, hX⟩ : ∃ X, wr.heap.size = X := ⟨_, rfl⟩
      rw [hX] at hb0 hl0
      try simp only [hX]
      have HXk := Lib.hid (show Xk (wr.alloc (Obj.cells (xa x) 71 (0, 0))) ⟨Z, R, M, H, v, p⟩ X x from ⟨hb0, fun g => Nat.lt_irrefl _ (hl0 X g)⟩)
      generalize (wr.alloc (Obj.cells (xa x) 71 (0, 0))) = w7 at *
      clear hd hb0 hl0 hX HL HX0 HX1 HX2 HX3
      have cD : w7.cell? ⟨X, 0, none⟩ = some (.int .u8 x.f0) := Err.cell_of_blk HXk.out.b 0
      obtain ⟨y, hy⟩ : ∃ y, x.f0.tmod 8 = y := ⟨_, rfl⟩
      have hy0 := hxw.a0
      have hyl : 0 ≤ y := by rw [← hy]; exact Int.tmod_nonneg _ hy0.1
      have hy8 : y < 8 := by rw [← hy]; exact Int.tmod_lt_of_pos _ (by decide)
      have HY := Lib.hid hy
      clear hy hy0
      go_upto_block 2 with fail
      try rw [HY.out]
      clear cD HY
      go_step
      refine br_all W w7 Z R M H v p o N s rs ts pt fs A9 c9 A11 c11 _ _ (some ad) n c0 j X x hxw (by omega) HLW HL7 HV HXk y _ (Lib.hid ⟨?_, ?_⟩)
      · intro c a t v w h
        simp only [Exit.inBlock, Exit.then] at h ⊢
        exact h
      intros
      rename_i w8 Z2 H2 v2 p2 o2 s2 rs2 ts2 pt2 fs2 A92 c92 A112 c112 u102 u122 hL8 hV8
      clear HL7 HV HXk
      have e11 : ts2.length = rs2.length := hV8.g.tl
      have e12 : fs2.length = pt2.length := hV8.g.fl
      have hso := hV8.so
      have hpl := hV8.pl
      have hrl := hV8.g.rl
      have hsz : s2.d.size ≤ 2048 := by rw [hV8.g.size]; have := hV8.g.nn; omega
      obtain ⟨B10, b10, rfl, hb10, hC10⟩ := hL8.w10.c
      obtain ⟨B12, b12, rfl, hb12, hC12⟩ := hL8.w12.c
      have HL8 := Lib.hid hL8
      have HV8 := Lib.hid hV8
      have hcon := all_c Z2 R M H2 v2 p2 o2 (withM rs2) s2 A92 A112 rs2.length c92 c112 rs2 ts2 w8 (Lib.hid hL8.run.is) (Lib.hid hV8.dn) hsz (by omega) rfl e11 (by omega) (Lib.hid (Kd.F_now hL8.r9)) (Lib.hid (by rw [← e11]; exact Kd.F_now hL8.r11)) (fun i r t h1 h2 => hV8.g.read i r t h1 h2)
      rw [show (Value.slice A112 rs2.length c112) = .slice A112 ts2.length c112 by rw [e11]] at hcon
      have HC1 := Lib.hid hcon
      have HE11 := Lib.hid e11
      have HE12 := Lib.hid e12
      clear hcon hL8 hV8 e11 e12 hC10 hC12
      simp only [Exit.inBlock, Exit.then]
      go_wp2_with fail
      refine HC1.out.mono ?_
      rintro e w9 ⟨rfl, hd⟩
      have HL9 := Lib.hid (HL8.out.on hd)
      clear hd HL8 HC1
      have hcon := all_c Z2 R M H2 v2 p2 o2 (withM rs2) s2 B10 B12 pt2.length b10 b12 pt2 fs2 w9 (Lib.hid HL9.out.run.is) (Lib.hid HV8.out.dn) hsz (by omega) rfl HE12.out (by omega) (Lib.hid (by
        obtain ⟨A, c, e, _, h⟩ := HL9.out.w10.c
        injection e with e1 e2 e3
        subst e1
        exact h)) (Lib.hid (by
        obtain ⟨A, c, e, _, h⟩ := HL9.out.w12.c
        injection e with e1 e2 e3
        subst e1
        rw [← HE12.out]
        exact h)) (fun i r t h1 h2 => HV8.out.g.fr i r t h1 h2)
      rw [show (Value.slice B12 pt2.length b12) = .slice B12 fs2.length b12 by rw [HE12.out]] at hcon
      have HC2 := Lib.hid hcon
      clear hcon
      go_wp2_with fail
      refine HC2.out.mono ?_
      rintro e w10 ⟨rfl, hd⟩
      have HL10 := Lib.hid (HL9.out.on hd)
      clear hd HL9 HC2
      go_wp2_with fail
      go_roundg k1
      case measure => exact Nat.lt_succ_self _
      case rel => exact ⟨j + 1, Z2, H2, v2, p2, o2, s2, rs2, ts2, pt2, fs2, A92, c92, A112, c112, rfl, rfl, rfl, by simp, by omega, HL10, HV8⟩
theorem lasts_walk (sz : Int) (A0 : Option Addr) (n c0 : Nat) (acts : List Ac) (W : World) (hsz : (Lit.int .u8 sz).wf = true) (hn : acts.length = n) (hc : n ≤ c0) (HA : Kd.C ack W A0 n acts) (hw : ∀ x ∈ acts, AcW x) (hg : Hid (Laid W)) :
    Calls Tryz.prog 6 #[.int .u8 sz, .slice A0 n c0] W fun e w' => e = .returned (.bool true) ∧ Below W.heap.size W w' := by
  obtain ⟨k0, b, hf, hb⟩ := few_f acts
  cases b with
  | false => exact lasts_out sz A0 n c0 k0 acts W hn hc (Lib.hid HA) (Lib.hid hf)
  | true =>
    have hs : 0 ≤ sz ∧ sz ≤ 255 := by
      simp [Lit.wf, IntKind.min, IntKind.max, IntKind.bits, IntKind.signed] at hsz
      omega
    obtain ⟨m, rfl⟩ : ∃ m : Nat, sz = (m : Int) := ⟨sz.toNat, by omega⟩
    exact lasts_in m A0 n c0 k0 acts W (by omega) hn hc (Lib.hid HA) (Lib.hid hw) hg (Lib.hid hf) (by have := (hb rfl).1; omega)
end Go.Proofs.YtaodgnladjafoaaGreatDoor.Sto
