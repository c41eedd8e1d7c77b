/- ManiUses, the walk. -/
import Derived.Test.YtpijilfkmkdghaaDoorManiUses0
import Derived.Test.YtpijilfkmkdghaaDoorManArg
set_option linter.unusedVariables false
set_option linter.unusedSimpArgs false
namespace Go.Proofs.YtpijilfkmkdghaaDoor.Mni
open Go.RowKit Go.Proofs.YtpijilfkmkdghaaDoorW.PrintWords Go.Proofs.YtpijilfkmkdghaaDoorW.PrintLast Go.Proofs.YtpijilfkmkdghaaDoorW.PrintMore Go.Proofs.YtpijilfkmkdghaaDoor.Md Go.Proofs.YtpijilfkmkdghaaDoor.QManiBack Go.Proofs.YtpijilfkmkdghaaDoor.CdM
open Go.Proofs.YtpijilfkmkdghaaDoor.Err (Laid IsErr code_nil code_c Chain at_some at_nil)
/-- the state of a law: the box of the manifest that came in -/
structure Bx (W wr : World) (X : Nat) (o : Loc) (g : Arg) : Prop where
  bel : Below W.heap.size W wr
  box : wr.heap[X]? = some (Obj.cells (o.b g) 26 (0, 0))
  arg : At2 wr o g
theorem Bx.on {W wr w1 : World} {X : Nat} {o : Loc} {g : Arg} (h : Bx W wr X o g) (k : Below wr.heap.size wr w1) : Bx W w1 X o g :=
  ⟨h.bel.trans (k.mono h.bel.size), (k.block _ (Err.lt_of_block h.box)).trans h.box, h.arg.on k⟩
theorem Bx.laid {W wr : World} {X : Nat} {o : Loc} {g : Arg} (h : Bx W wr X o g) (hg : Hid (Laid W)) : Hid (Laid wr) := Lib.hid (hg.out.on h.bel)
theorem Bx.new {W : World} {o : Loc} {g : Arg} (h : At2 W o g) : Bx W (W.alloc (Obj.cells (o.b g) 26 (0, 0))) W.heap.size o g :=
  ⟨(Below.refl _ _).alloc (Nat.le_refl _) _, heap_alloc_last _ _, h.on ((Below.refl _ _).alloc (Nat.le_refl _) _)⟩
theorem gm_len (g : Arg) : g.m.refs.length = g.refs.length := by simp [Arg.m]
theorem gm_get (g : Arg) (j : Nat) (h : j < g.refs.length) : g.m.refs[j]'(by rw [gm_len]; exact h) = refOf g.refs[j] := by simp [Arg.m, refOf]
set_option maxHeartbeats 8000000 in
set_option maxRecDepth 100000 in
theorem uses (o : Loc) (g : Arg) (s d : Int) (W : World) (hw : Hid (Wf W o g)) (hs0 : 0 ≤ s) (hs1 : s ≤ 255) (hd0 : 0 ≤ d) (hd1 : d ≤ 255) (hg : Hid (Laid W)) :
    Calls Tryd.prog 3 #[.agg (o.b g), .int .u8 s, .int .u8 d] W fun e w' => e = .returned (.bool true) ∧ Below W.heap.size W w' := by
  have HS1 := Lib.hid (Bx.new hw.out.at_)
  have q1 : IntKind.i64.wrap s = s := IntWalk.i64_in _ (by omega)
  have q2 : IntKind.i64.wrap (2 + s) = 2 + s := IntWalk.i64_in _ (by omega)
  have q3 : IntKind.i64.wrap d = d := IntWalk.i64_in _ (by omega)
  go_enter Tryd.func3, Tryd.ntmps3
  go_upto_region 2 with fail
  obtain ⟨X, hX⟩ : ∃ X, W.heap.size = X := ⟨_, rfl⟩
  rw [hX] at HS1
  simp only [hX]
  generalize (W.alloc (Obj.cells (o.b g) 26 (0, 0))) = w1 at *
  obtain ⟨n, hn⟩ : ∃ n, 2 + s = n := ⟨_, rfl⟩
  rw [hn]
  have hn0 : 2 ≤ n := by omega
  have hn1 : n ≤ 257 := by omega
  have q4 : IntKind.i64.wrap (n + d) = n + d := IntWalk.i64_in _ (by omega)
  clear hX hn q2
  go_wp2_with fail
  refine (awake_c w1 (HS1.out.laid hg)).mono ?_
  rintro e w2 ⟨rfl, hd⟩
  have HS2 := Lib.hid (HS1.out.on hd)
  clear hd HS1
  go_wp2_with (first | (refine wg_loadG X o g HS2.out.box (by rfl) _ rfl rfl ?_))
  refine (few_c o g w2 (Lib.hid HS2.out.arg)).mono ?_
  rintro e w3 ⟨r, rfl, hr01, hr1, hd⟩
  have HS3 := Lib.hid (HS2.out.on hd)
  clear hd HS2
  by_cases hr0 : r = 0
  · subst hr0
    clear hr01 hr1
    go_wp2_with fail
    refine (awake_c w3 (HS3.out.laid hg)).mono ?_
    rintro e w4 ⟨rfl, hd⟩
    have HS4 := Lib.hid (HS3.out.on hd)
    clear hd HS3
    go_wp2_with fail
    go_ret
    exact ⟨rfl, HS4.out.bel⟩
  · obtain rfl : r = 1 := hr01.resolve_left hr0
    obtain ⟨b80, _, b20, _⟩ := hr1 rfl
    clear hr01 hr0 hr1
    go_wp2_with (first | (refine wg_loadG X o g HS3.out.box (by rfl) _ rfl rfl ?_))
    refine (of_c o g w3 (Lib.hid HS3.out.arg) (by omega)).mono ?_
    rintro e w4 ⟨o1, rfl, ha, hd⟩
    have HS4 := Lib.hid (HS3.out.on hd)
    have HA4 := Lib.hid ha
    clear ha hd HS3
    go_wp2_with fail
    refine (right_c o1 g.m n w4 HA4 (by show g.snaps.length ≤ _; omega) (by rw [gm_len]; omega)).mono ?_
    rintro e w5 ⟨rfl, hd⟩
    have HS5 := Lib.hid (HS4.out.on hd)
    clear hd HS4 HA4
    obtain ⟨b, hb⟩ : ∃ b, rightM g.m n = b := ⟨_, rfl⟩
    rw [hb]
    cases b with
    | false =>
      clear hb
      go_wp2_with fail
      refine (awake_c w5 (HS5.out.laid hg)).mono ?_
      rintro e w6 ⟨rfl, hd⟩
      have HS6 := Lib.hid (HS5.out.on hd)
      clear hd HS5
      go_wp2_with fail
      go_ret
      exact ⟨rfl, HS6.out.bel⟩
    | true =>
      obtain ⟨out, ho1, ho2, ho3, ho4, ho5⟩ := uses_more d.toNat hb (by omega)
      rw [show ((d.toNat : Nat) : Int) = d by omega] at ho4 ho5
      have hrefs := right_refs n g.m.refs _ _ ho1
      have HRf := Lib.hid hrefs
      have HR := Lib.hid hb
      have HR2 := Lib.hid ho5
      have HM1 := Lib.hid ho1
      have HM2 := Lib.hid ho4
      have HO2 := Lib.hid ho2
      have HO3 := Lib.hid ho3
      clear hrefs hb ho1 ho2 ho3 ho4 ho5
      obtain ⟨q, hq⟩ : ∃ q, g.refs.length = q := ⟨_, rfl⟩
      rw [hq] at b80
      have HQ := Lib.hid hq
      clear hq
      go_wp2_with fail
      go_loopg [8, 9] q (fun kq v8 v9 wr => ∃ (j : Nat), v8 = .int .i64 (2 + (sumP (g.m.refs.take j) : Int)) ∧ v9 = .int .i64 (j : Int) ∧ kq + j = q ∧ Hid (Bx W wr X o g))
      case atStart => exact ⟨0, rfl, rfl, by omega, HS5⟩
      case round =>
        clear HS5
        obtain ⟨j, rfl, rfl, hk, HS⟩ := hrel
        generalize wr = w6 at *
        obtain ⟨k0, _, _, _⟩ := arg_cells (Lib.hid HS.out.box)
        rw [HQ.out] at k0
        cases gk with
        | zero =>
          have hj : j = q := by omega
          have c1 : decide ((j : Int) < (q : Int)) = false := decide_eq_false (by omega)
          have c1b : decide (j < q) = false := decide_eq_false (by omega)
          obtain ⟨C, hC⟩ : ∃ C, 2 + (sumP (g.m.refs.take j) : Int) = C := ⟨_, rfl⟩
          rw [hC]
          have HC := Lib.hid (show ((out.count true : Nat) : Int) = C by
            rw [HO3.out, ← hC, hj, ← HQ.out, ← gm_len, List.take_length]; simp)
          clear hj hk hC
          have HS6 := HS
          clear HS
          go_wp2_with (first | (refine wl_loadG X o g HS6.out.box rfl _ rfl rfl ?_))
          clear k0
          refine (of_c o g w6 (Lib.hid HS6.out.arg) (by rw [HQ.out]; omega)).mono ?_
          rintro e w7 ⟨o2, rfl, ha, hd⟩
          have HS7 := Lib.hid (HS6.out.on hd)
          have HA7 := Lib.hid ha
          clear ha hd HS6
          go_wp2_with fail
          refine (used_yes o2 g.m n w7 HA7 (by show g.snaps.length ≤ _; omega) (by rw [gm_len, HQ.out]; omega) HR).mono ?_
          rintro e w8 ⟨Au, cu, rfl, hcu, hCu, hd⟩
          rw [HM1.out, Option.getD_some] at hcu hCu ⊢
          have HS8 := Lib.hid (HS7.out.on hd)
          have HU8 := Lib.hid hCu
          clear hd hCu HS7 HA7
          go_wp2_with (first | (refine wl_loadG X o g HS8.out.box rfl _ rfl rfl ?_))
          refine (of_c o g w8 (Lib.hid HS8.out.arg) (by rw [HQ.out]; omega)).mono ?_
          rintro e w9 ⟨o3, rfl, ha, hd⟩
          have HS9 := Lib.hid (HS8.out.on hd)
          have HA9 := Lib.hid ha
          have HU9 := Lib.hid (Kd.C_below HU8.out hd)
          clear ha hd HS8 HU8
          go_wp2_with fail
          refine (used_yes o3 g.m (n + d) w9 HA9 (by show g.snaps.length ≤ _; omega) (by rw [gm_len, HQ.out]; omega) HR2).mono ?_
          rintro e w10 ⟨Av, cv, rfl, hcv, hCv, hd⟩
          rw [HM2.out, Option.getD_some] at hcv hCv ⊢
          have HS10 := Lib.hid (HS9.out.on hd)
          have HU10 := Lib.hid (Kd.C_below HU9.out hd)
          have HV10 := Lib.hid hCv
          clear hd hCv HS9 HA9 HU9
          obtain ⟨N1, hN1⟩ : ∃ N1, out.length = N1 := ⟨_, rfl⟩
          obtain ⟨N2, hN2⟩ : ∃ N2, (out ++ List.replicate d.toNat false).length = N2 := ⟨_, rfl⟩
          have hN12 : N2 = N1 + d.toNat := by rw [← hN2, ← hN1, List.length_append, List.length_replicate]
          rw [hN1] at hcu ⊢
          rw [hN2] at hcv ⊢
          have HN1 := Lib.hid hN1
          have HN2 := Lib.hid hN2
          have hN1n : (N1 : Int) = n := by rw [← hN1]; exact HO2.out
          have HN1n := Lib.hid hN1n
          have hNb : N2 ≤ 600 := by omega
          have hN12' : N1 ≤ N2 := by omega
          clear hN1 hN2 hN1n hN12
          go_wp2_with fail
          go_loopg [12, 13, 14] N2 (fun kq v12 v13 v14 wr => ∃ (i : Nat), v12 = .int .i64 (((out.take i).count true : Nat) : Int) ∧ v13 = .int .i64 (((out.take i).count true : Nat) : Int) ∧ v14 = .int .i64 (i : Int) ∧ kq + i = N2 ∧ Hid (Bx W wr X o g) ∧ Hid (Kd.C Kd.bool wr Au out.length out) ∧ Hid (Kd.C Kd.bool wr Av (out ++ List.replicate d.toNat false).length (out ++ List.replicate d.toNat false)))
          case atStart => exact ⟨0, rfl, rfl, rfl, by omega, HS10, HU10, HV10⟩
          case round =>
            clear HS10 HU10 HV10
            obtain ⟨i, rfl, rfl, rfl, hk, HS, HU, HV⟩ := hrel
            generalize wr = w11 at *
            cases gk with
            | zero =>
              have hi : i = N2 := by omega
              have d1 : decide ((i : Int) < (N2 : Int)) = false := decide_eq_false (by omega)
              have d1b : decide (i < N2) = false := decide_eq_false (by omega)
              have hc : (((out.take i).count true : Nat) : Int) = C := by rw [List.take_of_length_le (by rw [HN1.out]; omega)]; exact HC.out
              rw [hc]
              have ecc : (C == C) = true := beq_self_eq_true C
              have enn : ((N1 : Int) == n) = true := beq_iff_eq.2 HN1n.out
              have HS11 := HS
              clear hi hk hc HU HV HS
              go_wp2_with (first | (refine wg_loadG X o g HS11.out.box (by rfl) _ rfl rfl ?_))
              refine (of_c o g w11 (Lib.hid HS11.out.arg) (by rw [HQ.out]; omega)).mono ?_
              rintro e w12 ⟨o4, rfl, ha, hd⟩
              have HS12 := Lib.hid (HS11.out.on hd)
              have HA12 := Lib.hid ha
              clear ha hd HS11
              go_wp2_with fail
              refine (right_c o4 g.m (n + d) w12 HA12 (by show g.snaps.length ≤ _; omega) (by rw [gm_len, HQ.out]; omega)).mono ?_
              rintro e w13 ⟨rfl, hd⟩
              have HS13 := Lib.hid (HS12.out.on hd)
              rw [HR2.out]
              clear hd HS12 HA12
              go_wp2_with fail
              go_ret
              exact ⟨rfl, HS13.out.bel⟩
            | succ k2 =>
              have hi : i < N2 := by omega
              have d1 : decide ((i : Int) < (N2 : Int)) = true := decide_eq_true (by omega)
              have d1b : decide (i < N2) = true := decide_eq_true hi
              have p1 : (0 ≤ (i : Int)) = True := eq_true (by omega)
              have p2 : ((i : Int) < (N2 : Int)) = True := eq_true (by omega)
              have q5 : IntKind.i64.wrap ((i : Int) + 1) = (i : Int) + 1 := IntWalk.i64_in _ (by omega)
              have hcnt : (out.take i).count true ≤ N2 := Nat.le_trans List.count_le_length (by rw [List.length_take]; omega)
              obtain ⟨K, hK⟩ : ∃ K, (out.take i).count true = K := ⟨_, rfl⟩
              rw [hK] at hcnt ⊢
              have q6 : IntKind.i64.wrap ((K : Int) + 1) = (K : Int) + 1 := IntWalk.i64_in _ (by omega)
              obtain ⟨av, eav, hv⟩ := Kd.at_bool HV.out (i : Int) (by omega) (by rw [HN2.out]; omega)
              rw [Int.toNat_natCast] at hv
              by_cases h1 : i < N1
              · have f1 : decide ((i : Int) < (N1 : Int)) = true := decide_eq_true (by omega)
                have f1b : decide (i < N1) = true := decide_eq_true h1
                have p3 : ((i : Int) < (N1 : Int)) = True := eq_true (by omega)
                have hio : i < out.length := by rw [HN1.out]; exact h1
                obtain ⟨au, eau, hu⟩ := Kd.at_bool HU.out (i : Int) (by omega) (by rw [HN1.out]; omega)
                rw [Int.toNat_natCast] at hu
                have e1 : rdOf false out (i : Int) = out[i] := by unfold rdOf; simp [List.getD_eq_getElem?_getD, List.getElem?_eq_getElem hio]
                have e2 : rdOf false (out ++ List.replicate d.toNat false) (i : Int) = out[i] := by
                  unfold rdOf
                  rw [Int.toNat_natCast, List.getD_eq_getElem?_getD, List.getElem?_append_left hio, List.getElem?_eq_getElem hio]
                  rfl
                rw [e1] at hu
                rw [e2] at hv
                have HT := Lib.hid (show (out.take (i + 1)).count true = K + (if out[i] = true then 1 else 0) by
                  rw [← List.take_append_getElem hio, List.count_append, hK]
                  cases out[i] <;> rfl)
                subst eau
                subst eav
                clear e1 e2 hK h1
                cases hb : out[i] with
                | true =>
                  rw [hb] at hu hv
                  have HT2 := Lib.hid (show (out.take (i + 1)).count true = K + 1 by rw [HT.out, hb]; rfl)
                  clear hb HT
                  go_wp2_with fail
                  go_roundg k2
                  case measure => exact Nat.lt_succ_self _
                  case rel => exact ⟨i + 1, by rw [HT2.out]; simp, by rw [HT2.out]; simp, by simp, by omega, HS, HU, HV⟩
                | false =>
                  rw [hb] at hu hv
                  have HT2 := Lib.hid (show (out.take (i + 1)).count true = K by rw [HT.out, hb]; rfl)
                  clear hb HT
                  go_wp2_with fail
                  go_roundg k2
                  case measure => exact Nat.lt_succ_self _
                  case rel => exact ⟨i + 1, by rw [HT2.out], by rw [HT2.out], by simp, by omega, HS, HU, HV⟩
              · have f1 : decide ((i : Int) < (N1 : Int)) = false := decide_eq_false (by omega)
                have f1b : decide (i < N1) = false := decide_eq_false h1
                have e2 : rdOf false (out ++ List.replicate d.toNat false) (i : Int) = false := by
                  unfold rdOf
                  rw [Int.toNat_natCast, List.getD_eq_getElem?_getD, List.getElem?_append_right (by rw [HN1.out]; omega), List.getElem?_replicate]
                  split <;> rfl
                rw [e2] at hv
                have HT2 := Lib.hid (show (out.take (i + 1)).count true = K by
                  rw [← hK, List.take_of_length_le (by rw [HN1.out]; omega), List.take_of_length_le (by rw [HN1.out]; omega)])
                subst eav
                clear e2 hK h1
                go_wp2_with fail
                go_roundg k2
                case measure => exact Nat.lt_succ_self _
                case rel => exact ⟨i + 1, by rw [HT2.out], by rw [HT2.out], by simp, by omega, HS, HU, HV⟩
        | succ k1 =>
          have hj : j < q := by omega
          have hjl : j < g.refs.length := by rw [HQ.out]; exact hj
          have c1 : decide ((j : Int) < (q : Int)) = true := decide_eq_true (by omega)
          have c1b : decide (j < q) = true := decide_eq_true hj
          have p1 : (0 ≤ (j : Int)) = True := eq_true (by omega)
          have p2 : ((j : Int) < (q : Int)) = True := eq_true (by omega)
          have q5 : IntKind.i64.wrap ((j : Int) + 1) = (j : Int) + 1 := IntWalk.i64_in _ (by omega)
          obtain ⟨ad, ead, x0, x1, x2⟩ := at_T36 HS.out.arg.r (j : Int) (by omega) (by omega)
          have ex : rd_T36 g.refs (j : Int) = g.refs[j] := by
            unfold rd_T36
            simp [List.getD_eq_getElem?_getD, List.getElem?_eq_getElem hjl]
          rw [ex] at x0 x1 x2
          simp only [Int.toNat_natCast] at x0 x1 x2
          have hjm : j < g.m.refs.length := by rw [gm_len]; exact hjl
          have hrt := HRf.out _ (List.getElem_mem hjm)
          have hgg := gm_get g j hjl
          rw [hgg] at hrt
          obtain ⟨x, hx⟩ : ∃ x, g.refs[j] = x := ⟨_, rfl⟩
          rw [hx] at x0 x1 x2 hrt hgg
          obtain ⟨t1, t2, t3⟩ := pages_tdiv (rightV_iff.1 hrt).1
          have hple := pagesV_le (refOf x).f1
          have hsn := sumP_snoc (g.m.refs.take j) (refOf x)
          have hst : g.m.refs.take (j + 1) = g.m.refs.take j ++ [refOf x] := by rw [← List.take_append_getElem hjm, hgg]
          rw [← hst] at hsn
          have hle := sumP_le (g.m.refs.take j)
          rw [List.length_take] at hle
          have hsI : (sumP (g.m.refs.take (j + 1)) : Int) = (sumP (g.m.refs.take j) : Int) + pagesV (refOf x).f1 := by rw [hsn]; omega
          obtain ⟨f, hf⟩ : ∃ f, x.f1 = f := ⟨_, rfl⟩
          have hf' : (refOf x).f1 = f := hf
          rw [hf] at x1
          rw [hf'] at t1 t2 t3 hsI hple
          obtain ⟨pg, hpg⟩ : ∃ pg, pagesV f = pg := ⟨_, rfl⟩
          rw [hpg] at t1 hsI hple
          obtain ⟨S, hS⟩ : ∃ S, 2 + (sumP (g.m.refs.take j) : Int) = S := ⟨_, rfl⟩
          have q6 : IntKind.i64.wrap (f + 63) = f + 63 := IntWalk.i64_in _ (by omega)
          have q7 : IntKind.i64.wrap pg = pg := IntWalk.i64_in _ (by omega)
          have q8 : IntKind.i64.wrap (S + pg) = S + pg := IntWalk.i64_in _ (by omega)
          have HSI := Lib.hid (show S + pg = 2 + (sumP (g.m.refs.take (j + 1)) : Int) by rw [hsI, ← hS]; omega)
          rw [ead] at k0
          rw [hS]
          clear hx ex ead hrt hgg hsn hst hle hsI hf hf' hpg hS x0 x2
          go_wp2_with fail
          go_roundg k1
          case measure => exact Nat.lt_succ_self _
          case rel => exact ⟨j + 1, by rw [HSI.out], by simp, by omega, HS⟩
namespace RowManiUses
theorem walk (o : Loc) (g : Arg) (s d : Int) (w : World) (hw : Wf w o g) (hs : (Lit.int .u8 s).wf = true) (hd : (Lit.int .u8 d).wf = true) (hg : Hid (Laid w)) :
    Calls Tryd.prog 3 #[.agg (o.b g), .int .u8 s, .int .u8 d] w fun e w' => e = .returned (.bool true) ∧ Below w.heap.size w w' := by
  have h1 : 0 ≤ s ∧ s ≤ 255 := by
    simp [Lit.wf, IntKind.min, IntKind.max, IntKind.bits, IntKind.signed] at hs
    omega
  have h2 : 0 ≤ d ∧ d ≤ 255 := by
    simp [Lit.wf, IntKind.min, IntKind.max, IntKind.bits, IntKind.signed] at hd
    omega
  exact uses o g s d w (Lib.hid hw) h1.1 h1.2 h2.1 h2.2 hg
end RowManiUses
end Go.Proofs.YtpijilfkmkdghaaDoor.Mni

