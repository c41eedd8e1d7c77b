/- StorePuts, the walk. -/
import Derived.Test.YtaodgnladjafoaaDoorStorePuts1V
set_option linter.unusedVariables false
set_option linter.unusedSimpArgs false
namespace Go.Proofs.YtaodgnladjafoaaDoor.Sto
open Go.RowKit Go.Proofs.YtaodgnladjafoaaDoorW.PrintWords Go.Proofs.YtaodgnladjafoaaDoorW.PrintLast Go.Proofs.YtaodgnladjafoaaDoorW.PrintMore Go.Proofs.YtaodgnladjafoaaDoor.Md Go.Proofs.YtaodgnladjafoaaDoor.Mni Go.Proofs.YtaodgnladjafoaaDoor.QStorePuts
open Go.Proofs.YtaodgnladjafoaaDoor.Dk (Dsk IsD Ft mayN rd wg_run)
open Go.Proofs.YtaodgnladjafoaaDoor.Slt (Sl switched bestOf)
open Go.Proofs.YtaodgnladjafoaaDoor.Err (Laid IsErr code_nil code_c Chain at_some at_nil)
theorem few_c (A : Option Addr) (n c : Nat) (acts : List Ac) (b : Bool) (k : Nat) (w : World) (hn : acts.length = n) (hc : n ≤ c) (hC : Kd.C ack w A n acts) (hf : shalelaw21_few.f k acts = some b) :
    Calls Tryd.prog 6 #[.slice A n c] w fun e w' => e = .returned (.bool b) ∧ Below w.heap.size w w' := by
  subst hn
  refine (shalelaw21_few.calls k A c acts b w hC hc hf).mono ?_
  rintro e w' ⟨rfl, hd⟩
  exact ⟨rfl, hd.below⟩
theorem refPut_c (A : Option Addr) (n c : Nat) (xs : List Bool) (sz : Nat) (w : World) (hn : xs.length = n) (hc : n ≤ c) (h2 : n ≤ 2048) (hs : sz ≤ 20000) (hC : Kd.C Kd.bool w A n xs) :
    Calls Tryd.prog 11 #[.slice A n c, .int .i64 (sz : Int)] w fun e w' => ∃ u, e = .returned (.tuple #[.int .i64 (putAt xs sz), u]) ∧ Kd.R Kd.bool 4 w' w.heap.size (fun _ => True) u (putOut xs sz) ∧ Below w.heap.size w w' := by
  subst hn
  obtain ⟨k, hk⟩ := refPut_f xs sz h2 hs
  exact shaleref21_Put.calls k A c xs (sz : Int) _ _ w hC hc hk
theorem IsS.outE {w w1 : World} {q : Pl} {s : St} {S : Nat → Prop} (h : IsS w q oE emptyM s) (k : Mod S w w1) (hS : ∀ i, Fs q i → ¬ S i) : IsS w1 q oE emptyM s :=
  ⟨k.blk h.blk (hS _ (.inl rfl)), h.dsk.mod k (fun i hi => hS i (.inr (.inr (.inl hi)))), h.held.mod k (hS _ (.inr (.inl rfl))), row_on (α := Rf) rfl h.put k (fun b hb => hS b (.inr (.inr (.inr hb)))), fun w2 _ _ => at_empty w2, h.n1, h.n2, h.n3⟩
theorem exec_neRs {ρ : Operand → Value} {o : Oper} {p q : Operand} {W : World} {x y : Rf} (ho : o.op = .binOp .neq 44 p q 44) (hx : ρ p = .agg (ra x)) (hy : ρ q = .agg (ra y)) : (execOp ρ o).run Tryd.prog W = .ok (.value (.bool (!sameR x y))) W := by
  have h1 : (binOp .neq 44 (.agg (ra x)) (.agg (ra y))).run Tryd.prog W = .ok (.bool (!sameR x y)) W := by
    unfold ra
    rw [run_neq_struct]
    have h := eqRf 9998 W x y
    unfold ra at h
    rw [h]
    rfl
  unfold execOp; simp only [ho, hx, hy, eqGRs .neq p q x y W, h1, Sem.run_bind, Sem.run_pure, Result.andThen_ok]
/-- the law's own row has one more -/
theorem Lp.push {W w w1 : World} {q : Pl} {s : St} {u p p1 : Value} {l : List Rf} (hr : Run W w q oE emptyM s) (hw : Rw w q u (used emptyM s)) (hp : rk.R 44 w 0 (fun _ => True) p l) (hn : ∀ b, p.ownBlock = some b → ¬ Fs q b ∧ W.heap.size ≤ b) (hg : w.grownBy w1 p.ownBlock) (hat : p1.ownBlock = p.ownBlock ∨ ∃ b, p1.ownBlock = some b ∧ w.heap.size ≤ b) (hp1 : rk.R 44 w1 0 (fun _ => True) p1 s.put) : Lp W w1 q s u p1 := by
  have k := mod_grown hg
  refine ⟨⟨hr.bel.trans (k.below hr.bel.size (fun i hi e => by have := (hn i e).2; omega)), hr.fr, hr.is.outE k (fun i hi e => (hn i e).1 hi)⟩, ⟨row_on (α := Bool) rfl hw.r k (fun b hb e => ?_), hw.n⟩, hp1, fun b hb => ?_⟩
  · obtain ⟨c1, h1⟩ := Kd.R_typed hw.r b hb
    obtain ⟨c2, h2⟩ := Kd.R_typed hp b e
    rw [h1] at h2
    simp at h2
  · rcases hat with e | ⟨b2, e, h2⟩
    · exact hn b (by rw [← e]; exact hb)
    · rw [e] at hb
      cases hb
      exact ⟨fun f => by have := hr.is.lt b f; omega, Nat.le_trans hr.bel.size h2⟩
set_option maxHeartbeats 8000000 in
set_option maxRecDepth 100000 in
theorem puts_in (m : Nat) (A0 : Option Addr) (n c0 k0 : Nat) (acts : List Ac) (W : World) (hm : m ≤ 255) (hn : acts.length = n) (hc : n ≤ c0) (HA : Hid (Kd.C ack W A0 n acts)) (hg : Hid (Laid W)) (hf : Hid (shalelaw21_few.f k0 acts = some true)) (hfew : Hid (acts.length ≤ 30 ∧ ∀ j, (h : j < acts.length) → (acts[j]).f1.size ≤ 20000)) :
    Calls Tryd.prog 3 #[.int .u8 (m : Int), .slice A0 n c0] W fun e w' => e = .returned (.bool true) ∧ Below W.heap.size W w' := by
  obtain ⟨N, hN⟩ : ∃ N, 8 + m = N := ⟨_, rfl⟩
  have h8 : 8 ≤ N := by omega
  have hN2 : N ≤ 2048 := by omega
  have hn30 : n ≤ 30 := by have := hfew.out.1; omega
  have HN := Lib.hid hn
  have HFew := hfew
  have q0 : IntKind.i64.wrap (m : Int) = (m : Int) := IntWalk.i64_in _ (by omega)
  have q1 : IntKind.i64.wrap (8 + (m : Int)) = (N : Int) := by rw [IntWalk.i64_in _ (by omega)]; omega
  clear hn hN hfew
  go_enter Tryd.func3, Tryd.ntmps3
  go_wp2_with fail
  refine (awake_c W).mono ?_
  rintro e w1 ⟨rfl, hd⟩
  have HB1 := Lib.hid hd
  clear hd
  go_wp2_with fail
  refine (few_c A0 n c0 acts true k0 w1 HN.out hc (Kd.C_below HA.out HB1.out) hf.out).mono ?_
  rintro e w2 ⟨rfl, hd⟩
  have HB2 := below_to HB1 (Nat.le_refl _) hd
  clear hd HB1
  go_wp2_with fail
  refine (Dk.new_c w2 (N : Int) (by omega) (by omega)).mono ?_
  rintro e w3 ⟨R, M, hR, hM, rfl, hd, hi⟩
  have H3 := Lib.hid (show IsD w3 R M (.slice none 0 0) (d0 N) from hi)
  have HRM := Lib.hid (And.intro (Nat.le_trans HB2.out.size hR) (Nat.le_trans HB2.out.size hM))
  have HB3 := below_to HB2 (Nat.le_refl _) hd
  clear hR hM hd hi HB2
  go_wp2_with fail
  refine (Format_new w3 R M _ N H3 h8 hN2).mono ?_
  rintro e w4 ⟨Z, H, hZ, hH, rfl, hi, hm4⟩
  have HU4 := Lib.hid (Run.new HB3.out HRM.out.1 HRM.out.2 hZ hH hm4 hi)
  clear hZ hH hi hm4 H3 HB3 HRM
  go_wp2_with fail
  refine (code_nil w4).mono ?_
  rintro e w5 ⟨rfl, hd⟩
  have HU5 := Lib.hid (HU4.out.on hd)
  clear hd HU4
  go_wp2_with fail
  refine (code_nil w5).mono ?_
  rintro e w6 ⟨rfl, hd⟩
  have HU6 := Lib.hid (HU5.out.on hd)
  clear hd HU5
  go_wp2_with fail
  refine (taken_R Z R M H _ _ (sF N) w6 (Lib.hid HU6.out.is) (ok_F N ⟨h8, hN2⟩)).mono ?_
  rintro e w7 ⟨u7, rfl, hr7, hd⟩
  have HU7 := Lib.hid (HU6.out.on hd)
  obtain ⟨A7, c7, rfl⟩ := Kd.R_slice hr7.r
  have hl7 : (used emptyM (sF N)).length = N := used_size _ N rfl
  have h7 := hr7
  rw [hl7] at h7
  rw [hl7]
  have HR7 := Lib.hid h7
  obtain ⟨ys, hys⟩ : ∃ ys, used emptyM (sF N) = ys := ⟨_, rfl⟩
  have HE7 := Lib.hid hys
  rw [hys] at h7 hl7
  have HYl := Lib.hid hl7
  have HG7 := Lib.hid h7.c
  clear hd hr7 h7 hl7 hys HU6
  have z0 : ((cntT (ys.take 0) : Nat) : Int) = 0 := by simp [cntT]
  go_wp2_with fail
  go_loopg [10, 11] N (fun kq vn vi wr => ∃ (k : Nat), vn = .int .i64 ((cntT (ys.take k) : Nat) : Int) ∧ vi = .int .i64 (k : Int) ∧ kq + k = N ∧ wr = w7)
  case atStart => exact ⟨0, rfl, rfl, by omega, rfl⟩
  case round =>
    obtain ⟨k, rfl, rfl, hk, rfl⟩ := hrel
    cases gk with
    | zero =>
      have hkN : k = N := by omega
      have d1 : decide ((k : Int) < (N : Int)) = false := decide_eq_false (by omega)
      have d1b : decide (k < N) = false := decide_eq_false (by omega)
      have hc3 : cntT (ys.take k) = cntT ys := by rw [hkN, ← HYl.out, List.take_length]
      rw [hc3]
      clear hk hkN hc3
      have z3 : cntT ys = 3 := by rw [← HE7.out]; exact cnt_F N h8
      rw [z3]
      clear z3
      have tN : ((N : Int) != (N : Int)) = false := by simp
      go_wp2_with fail
      have HL0 : Hid (Lp W wr ⟨Z, R, M, H, .slice none 0 0, .slice none 0 0⟩ (sF N) (.slice A7 N c7) (.slice none 0 0)) := Lib.hid ⟨HU7.out, HR7.out, Kd.R_nil _ _ _ _ _, fun b hb => by cases hb⟩
      clear HU7 HR7 HG7 HYl HE7 z0
      go_loopg [9, 12, 13] n (fun kq v9 v12 v13 wr => ∃ (j : Nat) (v p : Value) (s : St), v13 = .int .i64 (j : Int) ∧ kq + j = n ∧ Hid (PS N j s) ∧ Hid (Lp W wr ⟨Z, R, M, H, v, p⟩ s v9 v12))
      case atStart => exact ⟨0, _, _, sF N, rfl, rfl, Lib.hid (PS.start N), HL0⟩
      case round =>
        clear HL0
        obtain ⟨j, v, p, s, rfl, hk, HPS, HL⟩ := hrel
        have hxl := used_size s N HPS.out.size
        obtain ⟨A, c, e9⟩ := Kd.R_slice HL.out.wn.r
        rw [hxl] at e9
        obtain rfl : u9 = .slice A N c := e9
        cases gk with
        | zero =>
          have hj : j = n := by omega
          have d1 : decide ((j : Int) < (n : Int)) = false := decide_eq_false (by omega)
          have d1b : decide (j < n) = false := decide_eq_false (by omega)
          have hj2 : j ≤ 1000 := by omega
          clear hk hj hxl
          go_upto_if 80 with fail
          go_step
          go_step
          go_step
          go_step
          exact puts_tail W wr Z R M H v p A c u12 s N j h8 hN2 hj2 HPS HL
        | succ k1 =>
          have hj : j < n := by omega
          have hjl : j < acts.length := by rw [HN.out]; exact hj
          have d1 : decide ((j : Int) < (n : Int)) = true := decide_eq_true (by omega)
          have d1b : decide (j < n) = true := decide_eq_true hj
          have p1 : (0 ≤ (j : Int)) = True := eq_true (by omega)
          have p2 : ((j : Int) < (n : Int)) = True := eq_true (by omega)
          have q5 : IntKind.i64.wrap ((j : Int) + 1) = (j : Int) + 1 := IntWalk.i64_in _ (by omega)
          obtain ⟨ad, ead, x0, x1, x2, x3⟩ := at_T41 HA.out (j : Int) (by omega) (by omega)
          rw [rd_ac acts j hjl] at x1
          simp only [Int.toNat_natCast] at x1
          have hts := (HFew.out).2 j hjl
          obtain ⟨t, ht⟩ : ∃ t, acts[j].f1 = t := ⟨_, rfl⟩
          rw [ht] at x1 hts
          have HX1 := Lib.hid x1
          obtain rfl : A0 = some ad := ead
          have hcell := fun {w : World} (k : Below W.heap.size W w) => (k.cell (World.block_lt_of_cell? W _ HX1.out)).trans HX1.out
          obtain ⟨xs, hxs⟩ : ∃ xs, used emptyM s = xs := ⟨_, rfl⟩
          have HX := Lib.hid hxs
          have hC := HL.out.wn.c
          have hnc := (Kd.R_reads' HL.out.wn.r).2.1
          rw [hxs] at hC hxl
          have HC := Lib.hid hC
          have HXN := Lib.hid hxl
          have xc := hcell HL.out.run.bel
          clear x0 x1 x2 x3 ht hxs hC
          go_wp2_with fail
          refine (refPut_c A N c xs t.size wr HXN.out hnc hN2 hts HC.out).mono ?_
          rintro e w2 ⟨u2, rfl, hu2, hd⟩
          have HL2 := Lib.hid (HL.out.on hd)
          have HR2 := Lib.hid (Rw.new HL.out.run.is hu2)
          clear hu2 hd HL HC xc
          have xc := hcell HL2.out.run.bel
          rcases putAt_cases xs t.size with h3 | ⟨h1, h2, a, h3, h4, h5⟩
          · by_cases hin : 1 ≤ t.size ∧ t.size ≤ 16384
            · obtain ⟨x9, hf9⟩ := putAt_no xs t.size hin.1 hin.2 h3
              have hpg := Blb.pages_of t hin.1 hin.2
              obtain ⟨n1, hn1e⟩ : ∃ n1, (t.size + 63) / 64 = n1 := ⟨_, rfl⟩
              rw [hn1e] at hf9 hpg
              have hn1 : 1 ≤ n1 := by omega
              rw [h3]
              clear h3
              go_wp2_with fail
              refine (Put_no Z R M H v p oE emptyM s t (n1 : Int) x9 w2 (Lib.hid HL2.out.run.is) (HPS.out.ok h8 hN2 (by omega)) (Lib.hid hpg) (by omega) (Lib.hid (by rw [HX.out]; exact hf9))).mono ?_
              rintro e w3 ⟨T, y, rfl, he, hd⟩
              have HL3 := Lib.hid (HL2.out.on hd)
              have HE3 := Lib.hid he
              clear hd he HL2 xc
              go_upto_if 105 with (first | (refine wl_allocR rfl rfl ?_) | (refine wl_storeRn #[.int .i64 0, .int .i64 0, .int .u32 0] rfl zr rfl _ _ rfl rfl rfl ?_))
              have hd4 : Below w3.heap.size w3 (w3.alloc (Obj.cells (ra zr) 44 (0, 0))) := (Below.refl _ _).alloc (Nat.le_refl _) _
              have HK4 := Lib.hid (heap_alloc_last w3 (Obj.cells (ra zr) 44 (0, 0)))
              have HL4 := Lib.hid (HL3.out.on hd4)
              have HE4 := Lib.hid (HE3.out.on hd4)
              obtain ⟨K, hK⟩ : ∃ K, w3.heap.size = K := ⟨_, rfl⟩
              rw [hK] at HK4
              simp only [hK]
              generalize (w3.alloc (Obj.cells (ra zr) 44 (0, 0))) = w4 at *
              clear hK hd4 HL3 HE3
              have xc := hcell HL4.out.run.bel
              have g1 : decide ((t.size : Int) < 1) = false := decide_eq_false (by omega)
              have g1b : decide (t.size < 1) = false := decide_eq_false (by omega)
              have g2 : decide ((t.size : Int) > 16384) = false := decide_eq_false (by omega)
              have g2b : decide (t.size > 16384) = false := decide_eq_false (by omega)
              have g3 : decide ((16384 : Int) < (t.size : Int)) = false := decide_eq_false (by omega)
              have g3b : decide (16384 < t.size) = false := decide_eq_false (by omega)
              go_wp2_with fail
              refine (code_c (.iface T y) 9 w4 HE4 (Lib.hid (hg.out.on HL4.out.run.bel))).mono ?_
              rintro e w5 ⟨rfl, hd⟩
              have HL5 := Lib.hid (HL4.out.on hd)
              have HK5 := blk_to HK4 hd
              clear hd HL4 HK4 HE4 xc
              have hzz : (!sameR zr zr) = false := by rw [sameR_self]; rfl
              go_wp2_with (first | (refine wg_loadR K zr HK5.out (by rfl) _ rfl rfl ?_) | (refine wg_run (by rfl) (exec_neRs (x := zr) (y := zr) rfl rfl rfl) ?_))
              go_roundg k1
              case measure => exact Nat.lt_succ_self _
              case rel => exact ⟨j + 1, v, p, s, by simp, by omega, Lib.hid HPS.out.next, HL5⟩
            · by_cases hz : t.size < 1
              · rw [h3]
                clear h3
                have hpg : Blb.pagesV (t.size : Int) = 0 := by unfold Blb.pagesV; rw [if_pos (by omega)]
                go_wp2_with fail
                refine (Put_size Z R M H v p oE emptyM s t 0 w2 (Lib.hid HL2.out.run.is) (Lib.hid hpg) rfl).mono ?_
                rintro e w3 ⟨T, y, rfl, he, hd⟩
                have HL3 := Lib.hid (HL2.out.on hd)
                have HE3 := Lib.hid he
                clear hd he HL2 xc
                go_upto_if 105 with (first | (refine wl_allocR rfl rfl ?_) | (refine wl_storeRn #[.int .i64 0, .int .i64 0, .int .u32 0] rfl zr rfl _ _ rfl rfl rfl ?_))
                have hd4 : Below w3.heap.size w3 (w3.alloc (Obj.cells (ra zr) 44 (0, 0))) := (Below.refl _ _).alloc (Nat.le_refl _) _
                have HK4 := Lib.hid (heap_alloc_last w3 (Obj.cells (ra zr) 44 (0, 0)))
                have HL4 := Lib.hid (HL3.out.on hd4)
                have HE4 := Lib.hid (HE3.out.on hd4)
                obtain ⟨K, hK⟩ : ∃ K, w3.heap.size = K := ⟨_, rfl⟩
                rw [hK] at HK4
                simp only [hK]
                generalize (w3.alloc (Obj.cells (ra zr) 44 (0, 0))) = w4 at *
                clear hK hd4 HL3 HE3
                have xc := hcell HL4.out.run.bel
                have g1 : decide ((t.size : Int) < 1) = true := decide_eq_true (by omega)
                have g1b : decide (t.size < 1) = true := decide_eq_true (by omega)
                go_wp2_with fail
                refine (code_c (.iface T y) 15 w4 HE4 (Lib.hid (hg.out.on HL4.out.run.bel))).mono ?_
                rintro e w5 ⟨rfl, hd⟩
                have HL5 := Lib.hid (HL4.out.on hd)
                have HK5 := blk_to HK4 hd
                clear hd HL4 HK4 HE4 xc
                have hzz : (!sameR zr zr) = false := by rw [sameR_self]; rfl
                go_wp2_with (first | (refine wg_loadR K zr HK5.out (by rfl) _ rfl rfl ?_) | (refine wg_run (by rfl) (exec_neRs (x := zr) (y := zr) rfl rfl rfl) ?_))
                go_roundg k1
                case measure => exact Nat.lt_succ_self _
                case rel => exact ⟨j + 1, v, p, s, by simp, by omega, Lib.hid HPS.out.next, HL5⟩
              · have hbig : t.size > 16384 := by omega
                rw [h3]
                clear h3
                have hpg : Blb.pagesV (t.size : Int) = 0 := by unfold Blb.pagesV; rw [if_neg (by omega), if_pos (by omega)]
                go_wp2_with fail
                refine (Put_size Z R M H v p oE emptyM s t 0 w2 (Lib.hid HL2.out.run.is) (Lib.hid hpg) rfl).mono ?_
                rintro e w3 ⟨T, y, rfl, he, hd⟩
                have HL3 := Lib.hid (HL2.out.on hd)
                have HE3 := Lib.hid he
                clear hd he HL2 xc
                go_upto_if 105 with (first | (refine wl_allocR rfl rfl ?_) | (refine wl_storeRn #[.int .i64 0, .int .i64 0, .int .u32 0] rfl zr rfl _ _ rfl rfl rfl ?_))
                have hd4 : Below w3.heap.size w3 (w3.alloc (Obj.cells (ra zr) 44 (0, 0))) := (Below.refl _ _).alloc (Nat.le_refl _) _
                have HK4 := Lib.hid (heap_alloc_last w3 (Obj.cells (ra zr) 44 (0, 0)))
                have HL4 := Lib.hid (HL3.out.on hd4)
                have HE4 := Lib.hid (HE3.out.on hd4)
                obtain ⟨K, hK⟩ : ∃ K, w3.heap.size = K := ⟨_, rfl⟩
                rw [hK] at HK4
                simp only [hK]
                generalize (w3.alloc (Obj.cells (ra zr) 44 (0, 0))) = w4 at *
                clear hK hd4 HL3 HE3
                have xc := hcell HL4.out.run.bel
                have g1 : decide ((t.size : Int) < 1) = false := decide_eq_false (by omega)
                have g1b : decide (t.size < 1) = false := decide_eq_false (by omega)
                have g2 : decide ((t.size : Int) > 16384) = true := decide_eq_true (by omega)
                have g2b : decide (t.size > 16384) = true := decide_eq_true (by omega)
                have g3 : decide ((16384 : Int) < (t.size : Int)) = true := decide_eq_true (by omega)
                have g3b : decide (16384 < t.size) = true := decide_eq_true (by omega)
                go_wp2_with fail
                refine (code_c (.iface T y) 15 w4 HE4 (Lib.hid (hg.out.on HL4.out.run.bel))).mono ?_
                rintro e w5 ⟨rfl, hd⟩
                have HL5 := Lib.hid (HL4.out.on hd)
                have HK5 := blk_to HK4 hd
                clear hd HL4 HK4 HE4 xc
                have hzz : (!sameR zr zr) = false := by rw [sameR_self]; rfl
                go_wp2_with (first | (refine wg_loadR K zr HK5.out (by rfl) _ rfl rfl ?_) | (refine wg_run (by rfl) (exec_neRs (x := zr) (y := zr) rfl rfl rfl) ?_))
                go_roundg k1
                case measure => exact Nat.lt_succ_self _
                case rel => exact ⟨j + 1, v, p, s, by simp, by omega, Lib.hid HPS.out.next, HL5⟩
          · have hpg := Blb.pages_of t h1 h2
            obtain ⟨n1, hn1e⟩ : ∃ n1, (t.size + 63) / 64 = n1 := ⟨_, rfl⟩
            rw [hn1e] at hpg h4 h5
            rw [HXN.out] at h4
            have HAt := Lib.hid (show putOut xs t.size = used emptyM (putS s (a : Int) t n1) by
              rw [used_put HPS.out a t n1 hpg, HX.out]
              unfold putOut
              rw [h3, hn1e, if_pos (by omega)])
            have q22 : decide ((a : Int) < 0) = false := decide_eq_false (by omega)
            have q22b : decide (0 ≤ (a : Int)) = true := decide_eq_true (by omega)
            rw [h3]
            clear h3
            go_wp2_with fail
            refine (Put_ok Z R M H v p oE emptyM s t n1 (a : Int) w2 (Lib.hid HL2.out.run.is) (HPS.out.ok h8 hN2 (by omega)) (Lib.hid hpg) (by omega) h2 (Lib.hid (by rw [HX.out]; exact h5)) (by omega) (by rw [HPS.out.size]; omega) (Lib.hid HPS.out.down) (Lib.hid HPS.out.budget) (by have := HPS.out.soft; omega)).mono ?_
            rintro e w3 ⟨rfl, v3, p3, hi, hs⟩
            have hU3 := HL2.out.run.step hs hi
            have hW3 := HR2.out.step hs
            rw [HAt.out] at hW3
            have hP3 := row_out HL2.out.pt (fun b hb => (HL2.out.pn b hb).1) hs
            have HU3 := Lib.hid hU3
            have HW3 := Lib.hid hW3
            have HP3 := Lib.hid hP3.1
            have HN3 := Lib.hid (show ∀ b, u12.ownBlock = some b → ¬ Fs ⟨Z, R, M, H, v3, p3⟩ b ∧ W.heap.size ≤ b from fun b hb => ⟨hP3.2 b hb, (HL2.out.pn b hb).2⟩)
            obtain ⟨r, hr⟩ : ∃ r : Rf, r = ⟨(a : Int), (t.size : Int), AdM.sum t⟩ := ⟨_, rfl⟩
            rw [← hr]
            have hr0 : r.f0 = (a : Int) := by rw [hr]
            have hr1 : r.f1 = (t.size : Int) := by rw [hr]
            have HSp := Lib.hid (show (putS s (a : Int) t n1).put = s.put ++ [r] by rw [hr]; rfl)
            have hpl : s.put.length ≤ 1000 := by have := HPS.out.len; omega
            clear hi hs hU3 hW3 hP3 hr HL2 HR2 xc
            go_upto_if 105 with (first | (refine wl_allocR rfl rfl ?_) | (refine wl_storeRn #[.int .i64 0, .int .i64 0, .int .u32 0] rfl r rfl _ _ rfl rfl rfl ?_))
            have hd4 : Below w3.heap.size w3 (w3.alloc (Obj.cells (ra r) 44 (0, 0))) := (Below.refl _ _).alloc (Nat.le_refl _) _
            have HK4 := Lib.hid (heap_alloc_last w3 (Obj.cells (ra r) 44 (0, 0)))
            have HU4 := Lib.hid (HU3.out.on hd4)
            have HW4 := Lib.hid (HW3.out.on hd4)
            have HP4 := Lib.hid (Kd.R_below HP3.out hd4)
            obtain ⟨K, hK⟩ : ∃ K, w3.heap.size = K := ⟨_, rfl⟩
            rw [hK] at HK4
            simp only [hK]
            generalize (w3.alloc (Obj.cells (ra r) 44 (0, 0))) = w4 at *
            clear hK hd4 HU3 HW3 HP3
            go_upto_region 28 with fail
            have hdd : Below w4.heap.size w4 (World.drew w4) := (Below.refl _ _).drew
            have HUd := Lib.hid (HU4.out.on hdd)
            have HWd := Lib.hid (HW4.out.on hdd)
            have HPd := Lib.hid (Kd.R_below HP4.out hdd)
            have hkd := blk_to HK4 hdd
            have HKd := Lib.hid (show (World.drew w4).heap[K]? = some (Obj.cells #[.int .i64 (a : Int), .int .i64 (t.size : Int), .int .u32 r.f2] 44 (0, 0)) by rw [← hr0, ← hr1]; exact hkd.out)
            clear hdd hkd HU4 HW4 HP4 HK4
            have ta : ((a : Int) != (a : Int)) = false := by simp
            have tt : ((t.size : Int) != (t.size : Int)) = false := by simp
            refine start_ (n := 20) (S := fun w' => w'.cell? ⟨K, 0, none⟩ = some (.int .i64 (a : Int)) ∧ w'.cell? ⟨K, 1, none⟩ = some (.int .i64 (t.size : Int)) ∧ w'.cell? ⟨(ad.add (j * 4)).block, (ad.add (j * 4)).off + 1, none⟩ = some (.string t)) (ds := []) #[false, false, false, false, false, false, false, false, false, false, false, false, false, false, false, false, false, false, false, false] (by kernel_rfl) rfl rfl ⟨(Err.cell_of_blk HKd.out 0), (Err.cell_of_blk HKd.out 1), (hcell HUd.out.bel)⟩ (fun hHeld => ?_)
            refine pure_ (i := 0) (N := some 131) (v := ?_) (a' := ?_) #[true, false, false, false, false, false, false, false, false, false, false, false, false, false, false, false, false, false, false, false] rfl rfl (by kernel_rfl) (fun _ _ _ h => h) (Or.inl ⟨by rfl, ?_⟩) ?_ ?_
            rotate_left
            · intro w'
              go_simp
              with_reducible rfl
            rotate_left
            · simp only [Act.put, List.setIfInBounds_toArray, List.set_cons_zero, List.set_cons_succ, i64_w, i32_w]
              rfl
            refine one_ (i := 1) (N := some 132) #[true, true, false, false, false, false, false, false, false, false, false, false, false, false, false, false, false, false, false, false] rfl rfl (by kernel_rfl) (by decide) (fun K hK => ?_)
            refine goes_ Tryd.func9 (by kernel_rfl) rfl #[.nilIface] (by rfl) rfl rfl (by simp only [List.map_toArray, List.map_cons, List.map_nil]; rfl) ?_
            with_reducible refine (code_nil _).mono ?_
            rintro e w6 ⟨rfl, hd⟩
            refine ⟨_, rfl, ?_⟩
            have HU6 := Lib.hid (HUd.out.on hd)
            have HW6 := Lib.hid (HWd.out.on hd)
            have HP6 := Lib.hid (Kd.R_below HPd.out hd)
            have HK6 := blk_to HKd hd
            clear hd
            refine hK.out _ _ ⟨(Err.cell_of_blk HK6.out 0), (Err.cell_of_blk HK6.out 1), (hcell HU6.out.bel)⟩ (fun hHeld => ?_)
            clear hK K
            refine norm_ (a' := ?_) ?_ ?_
            rotate_left
            · show Act.put _ (some 132) _ = _
              simp only [Act.put, List.setIfInBounds_toArray, List.set_cons_zero, List.set_cons_succ, i64_w, i32_w]
              rfl
            refine pure_ (i := 2) (N := some 133) (v := ?_) (a' := ?_) #[true, true, true, false, false, false, false, false, false, false, false, false, false, false, false, false, false, false, false, false] rfl rfl (by kernel_rfl) (fun _ _ _ h => h) (Or.inl ⟨by rfl, ?_⟩) ?_ ?_
            rotate_left
            · intro w'
              go_simp
              with_reducible rfl
            rotate_left
            · simp only [Act.put, List.setIfInBounds_toArray, List.set_cons_zero, List.set_cons_succ, i64_w, i32_w]
              rfl
            refine pure_ (i := 3) (N := some 134) (v := ?_) (a' := ?_) #[true, true, true, true, false, false, false, false, false, false, false, false, false, false, false, false, false, false, false, false] rfl rfl (by kernel_rfl) (fun _ _ _ h => h) (Or.inl ⟨by rfl, ?_⟩) ?_ ?_
            rotate_left
            · intro w'
              go_simp
              with_reducible rfl
            rotate_left
            · simp only [Act.put, List.setIfInBounds_toArray, List.set_cons_zero, List.set_cons_succ, i64_w, i32_w]
              rfl
            refine pure_ (i := 4) (N := some 135) (v := ?_) (a' := ?_) #[true, true, true, true, true, false, false, false, false, false, false, false, false, false, false, false, false, false, false, false] rfl rfl (by kernel_rfl) (fun _ _ _ h => h) (Or.inl ⟨by rfl, ?_⟩) ?_ ?_
            rotate_left
            · intro w'
              go_simp
              with_reducible rfl
            rotate_left
            · simp only [Act.put, List.setIfInBounds_toArray, List.set_cons_zero, List.set_cons_succ, i64_w, i32_w]
              rfl
            refine pure_ (i := 6) (N := some 137) (v := ?_) (a' := ?_) #[true, true, true, true, true, false, true, false, false, false, false, false, false, false, false, false, false, false, false, false] rfl rfl (by kernel_rfl) (fun _ _ _ h => h) (Or.inl ⟨by rfl, ?_⟩) ?_ ?_
            rotate_left
            · intro w'
              go_simp
              with_reducible rfl
            rotate_left
            · simp only [Act.put, List.setIfInBounds_toArray, List.set_cons_zero, List.set_cons_succ, i64_w, i32_w]
              rfl
            refine take_ (i := 5) (N := some 136) (v := ?_) (a' := ?_) #[true, true, true, true, true, true, true, false, false, false, false, false, false, false, false, false, false, false, false, false] rfl rfl (by kernel_rfl) (fun _ _ _ h => h) (Or.inl ⟨by rfl, ?_⟩) hHeld ?_ ?_
            rotate_left
            · rintro w' ⟨s0, s1, s2⟩
              go_simp
              with_reducible rfl
            rotate_left
            · simp only [Act.put, List.setIfInBounds_toArray, List.set_cons_zero, List.set_cons_succ, i64_w, i32_w]
              rfl
            refine pure_ (i := 7) (N := some 138) (v := ?_) (a' := ?_) #[true, true, true, true, true, true, true, true, false, false, false, false, false, false, false, false, false, false, false, false] rfl rfl (by kernel_rfl) (fun _ _ _ h => h) (Or.inl ⟨by rfl, ?_⟩) ?_ ?_
            rotate_left
            · intro w'
              go_simp
              with_reducible rfl
            rotate_left
            · simp only [Act.put, List.setIfInBounds_toArray, List.set_cons_zero, List.set_cons_succ, i64_w, i32_w]
              rfl
            refine pure_ (i := 8) (N := some 139) (v := ?_) (a' := ?_) #[true, true, true, true, true, true, true, true, true, false, false, false, false, false, false, false, false, false, false, false] rfl rfl (by kernel_rfl) (fun _ _ _ h => h) (Or.inl ⟨by rfl, ?_⟩) ?_ ?_
            rotate_left
            · intro w'
              go_simp
              with_reducible rfl
            rotate_left
            · simp only [Act.put, List.setIfInBounds_toArray, List.set_cons_zero, List.set_cons_succ, i64_w, i32_w]
              rfl
            refine pure_ (i := 9) (N := some 140) (v := ?_) (a' := ?_) #[true, true, true, true, true, true, true, true, true, true, false, false, false, false, false, false, false, false, false, false] rfl rfl (by kernel_rfl) (fun _ _ _ h => h) (Or.inl ⟨by rfl, ?_⟩) ?_ ?_
            rotate_left
            · intro w'
              go_simp
              with_reducible rfl
            rotate_left
            · simp only [Act.put, List.setIfInBounds_toArray, List.set_cons_zero, List.set_cons_succ, i64_w, i32_w]
              rfl
            refine pure_ (i := 10) (N := some 141) (v := ?_) (a' := ?_) #[true, true, true, true, true, true, true, true, true, true, true, false, false, false, false, false, false, false, false, false] rfl rfl (by kernel_rfl) (fun _ _ _ h => h) (Or.inl ⟨by rfl, ?_⟩) ?_ ?_
            rotate_left
            · intro w'
              go_simp
              with_reducible rfl
            rotate_left
            · simp only [Act.put, List.setIfInBounds_toArray, List.set_cons_zero, List.set_cons_succ, i64_w, i32_w]
              rfl
            refine pure_ (i := 12) (N := some 143) (v := ?_) (a' := ?_) #[true, true, true, true, true, true, true, true, true, true, true, false, true, false, false, false, false, false, false, false] rfl rfl (by kernel_rfl) (fun _ _ _ h => h) (Or.inl ⟨by rfl, ?_⟩) ?_ ?_
            rotate_left
            · intro w'
              go_simp
              with_reducible rfl
            rotate_left
            · simp only [Act.put, List.setIfInBounds_toArray, List.set_cons_zero, List.set_cons_succ, i64_w, i32_w]
              rfl
            refine pure_ (i := 13) (N := some 144) (v := ?_) (a' := ?_) #[true, true, true, true, true, true, true, true, true, true, true, false, true, true, false, false, false, false, false, false] rfl rfl (by kernel_rfl) (fun _ _ _ h => h) (Or.inl ⟨by rfl, ?_⟩) ?_ ?_
            rotate_left
            · intro w'
              go_simp
              with_reducible rfl
            rotate_left
            · simp only [Act.put, List.setIfInBounds_toArray, List.set_cons_zero, List.set_cons_succ, i64_w, i32_w]
              rfl
            refine pure_ (i := 14) (N := some 145) (v := ?_) (a' := ?_) #[true, true, true, true, true, true, true, true, true, true, true, false, true, true, true, false, false, false, false, false] rfl rfl (by kernel_rfl) (fun _ _ _ h => h) (Or.inl ⟨by rfl, ?_⟩) ?_ ?_
            rotate_left
            · intro w'
              go_simp
              with_reducible rfl
            rotate_left
            · simp only [Act.put, List.setIfInBounds_toArray, List.set_cons_zero, List.set_cons_succ, i64_w, i32_w]
              rfl
            refine pure_ (i := 15) (N := some 146) (v := ?_) (a' := ?_) #[true, true, true, true, true, true, true, true, true, true, true, false, true, true, true, true, false, false, false, false] rfl rfl (by kernel_rfl) (fun _ _ _ h => h) (Or.inl ⟨by rfl, ?_⟩) ?_ ?_
            rotate_left
            · intro w'
              go_simp
              with_reducible rfl
            rotate_left
            · simp only [Act.put, List.setIfInBounds_toArray, List.set_cons_zero, List.set_cons_succ, i64_w, i32_w]
              rfl
            refine take_ (i := 11) (N := some 142) (v := ?_) (a' := ?_) #[true, true, true, true, true, true, true, true, true, true, true, true, true, true, true, true, false, false, false, false] rfl rfl (by kernel_rfl) (fun _ _ _ h => h) (Or.inl ⟨by rfl, ?_⟩) hHeld ?_ ?_
            rotate_left
            · rintro w' ⟨s0, s1, s2⟩
              go_simp
              with_reducible rfl
            rotate_left
            · simp only [Act.put, List.setIfInBounds_toArray, List.set_cons_zero, List.set_cons_succ, i64_w, i32_w]
              rfl
            refine take_ (i := 16) (N := some 147) (v := ?_) (a' := ?_) #[true, true, true, true, true, true, true, true, true, true, true, true, true, true, true, true, true, false, false, false] rfl rfl (by kernel_rfl) (fun _ _ _ h => h) (Or.inl ⟨by rfl, ?_⟩) hHeld ?_ ?_
            rotate_left
            · rintro w' ⟨s0, s1, s2⟩
              go_simp
              with_reducible rfl
            rotate_left
            · simp only [Act.put, List.setIfInBounds_toArray, List.set_cons_zero, List.set_cons_succ, i64_w, i32_w]
              rfl
            refine pure_ (i := 17) (N := some 148) (v := ?_) (a' := ?_) #[true, true, true, true, true, true, true, true, true, true, true, true, true, true, true, true, true, true, false, false] rfl rfl (by kernel_rfl) (fun _ _ _ h => h) (Or.inl ⟨by rfl, ?_⟩) ?_ ?_
            rotate_left
            · intro w'
              go_simp
              with_reducible rfl
            rotate_left
            · simp only [Act.put, List.setIfInBounds_toArray, List.set_cons_zero, List.set_cons_succ, i64_w, i32_w]
              rfl
            refine pure_ (i := 18) (N := some 149) (v := ?_) (a' := ?_) #[true, true, true, true, true, true, true, true, true, true, true, true, true, true, true, true, true, true, true, false] rfl rfl (by kernel_rfl) (fun _ _ _ h => h) (Or.inl ⟨by rfl, ?_⟩) ?_ ?_
            rotate_left
            · intro w'
              go_simp
              with_reducible rfl
            rotate_left
            · simp only [Act.put, List.setIfInBounds_toArray, List.set_cons_zero, List.set_cons_succ, i64_w, i32_w]
              rfl
            refine pure_ (i := 19) (N := some 150) (v := ?_) (a' := ?_) #[true, true, true, true, true, true, true, true, true, true, true, true, true, true, true, true, true, true, true, true] rfl rfl (by kernel_rfl) (fun _ _ _ h => h) (Or.inl ⟨by rfl, ?_⟩) ?_ ?_
            rotate_left
            · intro w'
              go_simp
              with_reducible rfl
            rotate_left
            · simp only [Act.put, List.setIfInBounds_toArray, List.set_cons_zero, List.set_cons_succ, i64_w, i32_w]
              rfl
            refine done_ (by kernel_rfl) ?_
            clear hHeld HUd HWd HPd HKd
            have HK6r := Lib.hid (show w6.heap[K]? = some (Obj.cells (ra r) 44 (0, 0)) by unfold ra; rw [hr0, hr1]; exact HK6.out)
            clear HK6 hr0 hr1
            go_upto_region 32 with (first
              | (refine wl_loadR K r HK6r.out rfl _ rfl rfl ?_)
              | (refine Kd.event_run rfl (exec_litR (a := r.f0) (b := r.f1) (c := r.f2) rfl rfl _) ?_
                 have hd7 : Below w6.heap.size w6 (w6.alloc (Obj.cells #[.int .i64 r.f0, .int .i64 r.f1, .int .u32 r.f2] 44 (0, 0))) := (Below.refl _ _).alloc (Nat.le_refl _) _
                 have HL7 := Lib.hid (heap_alloc_last w6 (Obj.cells #[.int .i64 r.f0, .int .i64 r.f1, .int .u32 r.f2] 44 (0, 0)))
                 have HU7 := Lib.hid (HU6.out.on hd7)
                 have HW7 := Lib.hid (HW6.out.on hd7)
                 have HP7 := Lib.hid (Kd.R_below HP6.out hd7)
                 generalize (w6.alloc (Obj.cells #[.int .i64 r.f0, .int .i64 r.f1, .int .u32 r.f2] 44 (0, 0))) = w7 at *
                 clear hd7)
              | (at_builtin
                 refine Kd.R_append_rows rk (w0 := w7) 0 rfl (.tmp 152) (.tmp 154) 36 44 (.agg #[.int .i64 0, .int .i64 0, .int .u32 0]) 24 rfl Tryd.underlying36 infoR rfl (by decide) (by decide) u12 s.put [r] _ _ _ (fun _ => True) (fun _ => False) rfl rfl HP7.out (readsR _ _ r HL7.out) (fun y cs hy => by subst hy; exact k44_mkM _ _ _ _) (fun _ h => h.elim) (fun _ _ => trivial) (Below.refl _ _) (Nat.zero_le _) (show (s.put.length + 1) * 24 ≤ 140737488355328 by omega) ?_
                 intro v8 w8 ho hb hg8 hn8
                 have HL8 := Lib.hid (Lp.push (p1 := v8) HU7.out HW7.out HP7.out HN3.out hg8 hn8 (by rw [HSp.out]; exact ho))
                 clear ho hb hg8 hn8))
            clear HU6 HW6 HP6 HK6r HU7 HW7 HP7 HL7 HN3
            go_wp2_with fail
            refine (taken_R Z R M H v3 p3 (putS s (a : Int) t n1) w8 (Lib.hid HL8.out.run.is) ((HPS.out.put (a : Int) t n1 (by omega) (by omega) (by omega)).ok h8 hN2 (by omega))).mono ?_
            rintro e w9 ⟨ug9, rfl, hr9, hd⟩
            have HL9 := Lib.hid (HL8.out.on hd)
            obtain ⟨A9, c9, rfl⟩ := Kd.R_slice hr9.r
            obtain ⟨xs1, hxs1⟩ : ∃ xs1, used emptyM (putS s (a : Int) t n1) = xs1 := ⟨_, rfl⟩
            have hl1 : xs1.length = N := by rw [← hxs1]; exact used_size _ N HPS.out.size
            have hwn := HL9.out.wn
            rw [hxs1] at hr9 hwn
            rw [hl1] at hr9
            rw [hxs1, hl1]
            obtain ⟨A2, c2, e2⟩ := Kd.R_slice hwn.r
            rw [hl1] at e2
            obtain rfl : u2 = .slice A2 N c2 := e2
            have HXl := Lib.hid hl1
            have HG9 := Lib.hid hr9.c
            have HW9 := Lib.hid hwn.c
            clear hd hr9 hwn hxs1 hl1 HL8 HX
            go_wp2_with fail
            go_loopg [20] N (fun kq vi wr => ∃ (k : Nat), vi = .int .i64 (k : Int) ∧ kq + k = N ∧ Hid (Below w9.heap.size w9 wr))
            case atStart => exact ⟨0, rfl, by omega, Lib.hid (Below.refl _ _)⟩
            case round =>
              obtain ⟨k, rfl, hk, HBr⟩ := hrel
              cases gk with
              | zero =>
                have hkN : k = N := by omega
                have d1 : decide ((k : Int) < (N : Int)) = false := decide_eq_false (by omega)
                have d1b : decide (k < N) = false := decide_eq_false (by omega)
                clear hk hkN
                go_wp2_with fail
                go_roundg k1
                case measure => exact Nat.lt_succ_self _
                case rel => exact ⟨j + 1, v3, p3, putS s (a : Int) t n1, by simp, by omega, Lib.hid (HPS.out.put (a : Int) t n1 (by omega) (by omega) (by omega)), Lib.hid (HL9.out.on HBr.out)⟩
              | succ k1 =>
                have hkN : k < N := by omega
                have d1 : decide ((k : Int) < (N : Int)) = true := decide_eq_true (by omega)
                have d1b : decide (k < N) = true := decide_eq_true hkN
                have p1 : (0 ≤ (k : Int)) = True := eq_true (by omega)
                have p2 : ((k : Int) < (N : Int)) = True := eq_true (by omega)
                have q5 : IntKind.i64.wrap ((k : Int) + 1) = (k : Int) + 1 := IntWalk.i64_in _ (by omega)
                obtain ⟨b, hb⟩ : ∃ b, xs1[k]? = some b := ⟨xs1[k]'(by rw [HXl.out]; exact hkN), List.getElem?_eq_getElem _⟩
                obtain ⟨ag, eg, hg0⟩ := at_B (Kd.C_below HG9.out HBr.out) hb
                obtain ⟨aw, ew, hw0⟩ := at_B (Kd.C_below HW9.out HBr.out) hb
                cases eg
                cases ew
                clear hb
                go_upto_region 36 with fail
                have hg1 : (World.drew wr).cell? (ag.add k) = some (.bool b) := hg0
                have hw1 : (World.drew wr).cell? (aw.add k) = some (.bool b) := hw0
                refine start_ (n := 9) (S := fun w' => w'.cell? (ag.add k) = some (.bool b) ∧ w'.cell? (aw.add k) = some (.bool b)) (ds := []) #[false, false, false, false, false, false, false, false, false] (by kernel_rfl) rfl rfl ⟨hg1, hw1⟩ (fun hHeld => ?_)
                refine pure_ (i := 0) (N := some 164) (v := ?_) (a' := ?_) #[true, false, false, false, false, false, false, false, false] rfl rfl (by kernel_rfl) (fun _ _ _ h => h) (Or.inl ⟨by rfl, ?_⟩) ?_ ?_
                rotate_left
                · intro w'
                  go_simp
                  with_reducible rfl
                rotate_left
                · simp only [Act.put, List.setIfInBounds_toArray, List.set_cons_zero, List.set_cons_succ, i64_w, i32_w]
                  rfl
                refine pure_ (i := 1) (N := some 165) (v := ?_) (a' := ?_) #[true, true, false, false, false, false, false, false, false] rfl rfl (by kernel_rfl) (fun _ _ _ h => h) (Or.inl ⟨by rfl, ?_⟩) ?_ ?_
                rotate_left
                · intro w'
                  go_simp
                  with_reducible rfl
                rotate_left
                · simp only [Act.put, List.setIfInBounds_toArray, List.set_cons_zero, List.set_cons_succ, i64_w, i32_w]
                  rfl
                refine pure_ (i := 2) (N := some 166) (v := ?_) (a' := ?_) #[true, true, true, false, false, false, false, false, false] rfl rfl (by kernel_rfl) (fun _ _ _ h => h) (Or.inl ⟨by rfl, ?_⟩) ?_ ?_
                rotate_left
                · intro w'
                  go_simp
                  with_reducible rfl
                rotate_left
                · simp only [Act.put, List.setIfInBounds_toArray, List.set_cons_zero, List.set_cons_succ, i64_w, i32_w]
                  rfl
                refine pure_ (i := 4) (N := some 168) (v := ?_) (a' := ?_) #[true, true, true, false, true, false, false, false, false] rfl rfl (by kernel_rfl) (fun _ _ _ h => h) (Or.inl ⟨by rfl, ?_⟩) ?_ ?_
                rotate_left
                · intro w'
                  go_simp
                  with_reducible rfl
                rotate_left
                · simp only [Act.put, List.setIfInBounds_toArray, List.set_cons_zero, List.set_cons_succ, i64_w, i32_w]
                  rfl
                refine pure_ (i := 5) (N := some 169) (v := ?_) (a' := ?_) #[true, true, true, false, true, true, false, false, false] rfl rfl (by kernel_rfl) (fun _ _ _ h => h) (Or.inl ⟨by rfl, ?_⟩) ?_ ?_
                rotate_left
                · intro w'
                  go_simp
                  with_reducible rfl
                rotate_left
                · simp only [Act.put, List.setIfInBounds_toArray, List.set_cons_zero, List.set_cons_succ, i64_w, i32_w]
                  rfl
                refine pure_ (i := 6) (N := some 170) (v := ?_) (a' := ?_) #[true, true, true, false, true, true, true, false, false] rfl rfl (by kernel_rfl) (fun _ _ _ h => h) (Or.inl ⟨by rfl, ?_⟩) ?_ ?_
                rotate_left
                · intro w'
                  go_simp
                  with_reducible rfl
                rotate_left
                · simp only [Act.put, List.setIfInBounds_toArray, List.set_cons_zero, List.set_cons_succ, i64_w, i32_w]
                  rfl
                refine take_ (i := 3) (N := some 167) (v := ?_) (a' := ?_) #[true, true, true, true, true, true, true, false, false] rfl rfl (by kernel_rfl) (fun _ _ _ h => h) (Or.inl ⟨by rfl, ?_⟩) hHeld ?_ ?_
                rotate_left
                · rintro w' ⟨s0, s1⟩
                  go_simp
                  with_reducible rfl
                rotate_left
                · simp only [Act.put, List.setIfInBounds_toArray, List.set_cons_zero, List.set_cons_succ, i64_w, i32_w]
                  rfl
                refine take_ (i := 7) (N := some 171) (v := ?_) (a' := ?_) #[true, true, true, true, true, true, true, true, false] rfl rfl (by kernel_rfl) (fun _ _ _ h => h) (Or.inl ⟨by rfl, ?_⟩) hHeld ?_ ?_
                rotate_left
                · rintro w' ⟨s0, s1⟩
                  go_simp
                  with_reducible rfl
                rotate_left
                · simp only [Act.put, List.setIfInBounds_toArray, List.set_cons_zero, List.set_cons_succ, i64_w, i32_w]
                  rfl
                refine pure_ (i := 8) (N := some 172) (v := ?_) (a' := ?_) #[true, true, true, true, true, true, true, true, true] rfl rfl (by kernel_rfl) (fun _ _ _ h => h) (Or.inl ⟨by rfl, ?_⟩) ?_ ?_
                rotate_left
                · intro w'
                  go_simp
                  with_reducible rfl
                rotate_left
                · simp only [Act.put, List.setIfInBounds_toArray, List.set_cons_zero, List.set_cons_succ, i64_w, i32_w]
                  rfl
                refine done_ (by kernel_rfl) ?_
                have HB2 := below_to HBr (Nat.le_refl _) (show Below wr.heap.size wr (World.drew wr) from (Below.refl _ _).drew)
                clear hHeld hg0 hw0 hg1 hw1 HBr
                have tb : (b != b) = false := by cases b <;> rfl
                have tb2 : (b == b) = true := by cases b <;> rfl
                generalize (World.drew wr) = wr1 at *
                go_wp2_with fail
                go_roundg k1
                case measure => exact Nat.lt_succ_self _
                case rel => exact ⟨k + 1, by simp, by omega, HB2⟩
    | succ k1 =>
      have hkN : k < N := by omega
      have hky : k < ys.length := by rw [HYl.out]; exact hkN
      have d1 : decide ((k : Int) < (N : Int)) = true := decide_eq_true (by omega)
      have d1b : decide (k < N) = true := decide_eq_true hkN
      have p1 : (0 ≤ (k : Int)) = True := eq_true (by omega)
      have p2 : ((k : Int) < (N : Int)) = True := eq_true (by omega)
      have q5 : IntKind.i64.wrap ((k : Int) + 1) = (k : Int) + 1 := IntWalk.i64_in _ (by omega)
      obtain ⟨ag, eg, hg0⟩ := at_B HG7.out (List.getElem?_eq_getElem hky)
      cases eg
      have hcl := cntT_le (ys.take k)
      rw [List.length_take] at hcl
      obtain ⟨m, hm⟩ : ∃ m, cntT (ys.take k) = m := ⟨_, rfl⟩
      have hst := cntT_step ys k hky
      rw [hm] at hst hcl ⊢
      obtain ⟨b, hb⟩ : ∃ b, ys[k] = b := ⟨_, rfl⟩
      rw [hb] at hst hg0
      have q6 : IntKind.i64.wrap ((m : Int) + 1) = (m : Int) + 1 := IntWalk.i64_in _ (by omega)
      have HSt := Lib.hid hst
      clear hst hb hm hcl
      cases b with
      | true =>
        go_wp2_with fail
        go_roundg k1
        case measure => exact Nat.lt_succ_self _
        case rel =>
          have z : cntT (ys.take (k + 1)) = m + 1 := by simpa using HSt.out
          exact ⟨k + 1, by rw [z]; simp, by simp, by omega, rfl⟩
      | false =>
        go_wp2_with fail
        go_roundg k1
        case measure => exact Nat.lt_succ_self _
        case rel =>
          have z : cntT (ys.take (k + 1)) = m := by simpa using HSt.out
          exact ⟨k + 1, by rw [z], by simp, by omega, rfl⟩
set_option maxRecDepth 100000 in
theorem puts_out (sz : Int) (A0 : Option Addr) (n c0 k0 : Nat) (acts : List Ac) (W : World) (hn : acts.length = n) (hc : n ≤ c0) (HA : Hid (Kd.C ack W A0 n acts)) (hf : Hid (shalelaw21_few.f k0 acts = some false)) :
    Calls Tryd.prog 3 #[.int .u8 sz, .slice A0 n c0] W fun e w' => e = .returned (.bool true) ∧ Below W.heap.size W w' := by
  have HN := Lib.hid hn
  clear hn
  go_enter Tryd.func3, Tryd.ntmps3
  go_wp2_with fail
  refine (awake_c W).mono ?_
  rintro e w1 ⟨rfl, hd⟩
  have HB1 := Lib.hid hd
  clear hd
  go_wp2_with fail
  refine (few_c A0 n c0 acts false k0 w1 HN.out hc (Kd.C_below HA.out HB1.out) hf.out).mono ?_
  rintro e w2 ⟨rfl, hd⟩
  have HB2 := below_to HB1 (Nat.le_refl _) hd
  clear hd HB1
  go_wp2_with fail
  refine (awake_c w2).mono ?_
  rintro e w3 ⟨rfl, hd⟩
  have HB3 := below_to HB2 (Nat.le_refl _) hd
  clear hd HB2
  go_wp2_with fail
  go_ret
  exact ⟨rfl, HB3.out⟩
theorem puts_walk (sz : Int) (A0 : Option Addr) (n c0 : Nat) (acts : List Ac) (W : World) (hsz : (Lit.int .u8 sz).wf = true) (hn : acts.length = n) (hc : n ≤ c0) (HA : Kd.C ack W A0 n acts) (hg : Hid (Laid W)) :
    Calls Tryd.prog 3 #[.int .u8 sz, .slice A0 n c0] W fun e w' => e = .returned (.bool true) ∧ Below W.heap.size W w' := by
  obtain ⟨k0, b, hf, hb⟩ := few_f acts
  cases b with
  | false => exact puts_out sz A0 n c0 k0 acts W hn hc (Lib.hid HA) (Lib.hid hf)
  | true =>
    have hs : 0 ≤ sz ∧ sz ≤ 255 := by
      simp [Lit.wf, IntKind.min, IntKind.max, IntKind.bits, IntKind.signed] at hsz
      omega
    obtain ⟨m, rfl⟩ : ∃ m : Nat, sz = (m : Int) := ⟨sz.toNat, by omega⟩
    exact puts_in m A0 n c0 k0 acts W (by omega) hn hc (Lib.hid HA) hg (Lib.hid hf) (Lib.hid (hb rfl))
end Go.Proofs.YtaodgnladjafoaaDoor.Sto
