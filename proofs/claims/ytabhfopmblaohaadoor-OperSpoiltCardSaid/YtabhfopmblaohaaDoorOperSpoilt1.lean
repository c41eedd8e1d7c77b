/- OperSpoilt, the walk. -/
import Derived.Test.YtabhfopmblaohaaDoorOper8
import Derived.Test.YtabhfopmblaohaaDoorOpArg
set_option linter.unusedVariables false
set_option linter.unusedSimpArgs false
namespace Go.Proofs.YtabhfopmblaohaaDoor.Opr.RowOperSpoilt
open Go.RowKit Go.Proofs.YtabhfopmblaohaaDoorW.PrintWords Go.Proofs.YtabhfopmblaohaaDoorW.PrintLast Go.Proofs.YtabhfopmblaohaaDoorW.PrintMore Go.Proofs.YtabhfopmblaohaaDoor.CdM Go.Proofs.YtabhfopmblaohaaDoor.Md Go.Proofs.YtabhfopmblaohaaDoor.Opr Go.Proofs.YtabhfopmblaohaaDoor.Rdr
open Go.Proofs.YtabhfopmblaohaaDoor.AdM (sum bl)
open Go.Proofs.YtabhfopmblaohaaDoor.Err (Laid IsErr code_nil code_c Chain at_some at_nil)
theorem few0 {o : Op} (h : o.fewB = false) : (if o.fewB = true then (1 : Int) else 0) = 0 := by rw [h]; rfl
theorem few1 {o : Op} (h : o.fewB = true) : (if o.fewB = true then (1 : Int) else 0) = 1 := by rw [h]; rfl
theorem layAll_size {l : List Op} (h : AllOk l) (hn : l.length ≤ 1000) : 5 ≤ (layAll l).size ∧ (layAll l).size ≤ 13 + 409 * l.length := by
  have h1 := outs_size hn l.length (Nat.le_refl _) (fun j hj _ => h j hj)
  have h2 : 1 ≤ (outs l l.length).size := by rw [outs_all, ByteArray.size_append, numS_size]; have := num_pos l.length; omega
  unfold layAll
  rw [ByteArray.size_append, AdQ.fourS_size]
  omega
set_option maxHeartbeats 16000000 in
set_option maxRecDepth 100000 in
theorem walk0 (A : Option Addr) (n c : Nat) (l : List Op) (at_ b : Int) (W : World) (hl : l.length = n) (hc : n ≤ c) (hn : n ≤ 10) (hA : Hid (Kd.C opk W A n l)) (hat : 0 ≤ at_ ∧ at_ < 65536) (hb : 0 ≤ b ∧ b < 256) (hg : Hid (Laid W)) : Calls Tryd.prog 7 #[.slice A n c, .int .u16 at_, .int .u8 b] W fun e w' => e = .returned (.bool true) ∧ Below W.heap.size W w' := by
  have g0 : decide ((n : Int) > 10) = false := decide_eq_false (by omega)
  have g1 : decide (10 < n) = false := decide_eq_false (by omega)
  have HBb := Lib.hid hb
  have HAt := Lib.hid hat
  clear hb hat
  go_enter Tryd.func7, Tryd.ntmps7
  go_wp2_with fail
  refine (awake_c _).mono ?_
  rintro e w1 ⟨rfl, hd⟩
  have HX1 := Lib.hid hd
  have HA1 := Lib.hid (Kd.C_below hA.out hd)
  have HL1 := Lib.hid (hg.out.on hd)
  clear hd
  go_wp2_with fail
  go_loopg [7, 8] n (fun kq v0 v1 wr => ∃ (i : Nat), v1 = .int .i64 (i : Int) ∧ kq + i = n ∧ Hid (Kd.C opk wr A n l) ∧ Hid (Below W.heap.size W wr) ∧ Hid (Laid wr) ∧ Hid (Kd.R opk 30 wr W.heap.size (fun _ => True) v0 (l.take i)))
  case atStart => exact ⟨0, rfl, by omega, HA1, HX1, HL1, Lib.hid (Kd.R_nil _ _ _ _ _)⟩
  case round =>
    clear HA1 HX1 HL1
    obtain ⟨i, rfl, hk, HA, HX, HL, HM⟩ := hrel
    cases gk with
    | zero =>
      have hin : i = n := by omega
      have c1 : decide ((i : Int) < (n : Int)) = false := decide_eq_false (by omega)
      have c1' : decide (i < n) = false := decide_eq_false (by omega)
      have ht : l.take i = l := List.take_of_length_le (by omega)
      rw [ht] at HM
      obtain ⟨A2, cc, hu7, hcc, hC⟩ := Kd.R_reads HM.out
      rw [hl] at hcc hC hu7
      subst hu7
      have HC := Lib.hid hC
      have HAll0 := Lib.hid hl
      clear ht HM hC hk
      go_wp2_with fail
      refine (layall_c A2 n cc l _ hl HC (by omega) hcc).mono ?_
      rintro e w3 ⟨he, hd⟩
      have HX3 := Lib.hid (HX.out.trans (hd.mono HX.out.size))
      have HL3 := Lib.hid (HL.out.on hd)
      clear hd HX HL HC HA
      rcases he with ⟨hok, rfl⟩ | ⟨_, T, u, rfl, hie⟩
      · have HOk := Lib.hid hok
        obtain ⟨hs5, hs6⟩ := layAll_size hok (by omega)
        obtain ⟨S, hS⟩ : ∃ S, layAll l = S := ⟨_, rfl⟩
        rw [hS] at hs5 hs6 ⊢
        have HS := Lib.hid hS
        have HGood := Lib.hid (show ¬ SumBad S by rw [← hS]; exact (laid_parts l).2)
        clear hok hS
        go_wp2_with fail
        refine (code_nil _).mono ?_
        rintro e w4 ⟨rfl, hd⟩
        have HX4 := Lib.hid (HX3.out.trans (hd.mono HX3.out.size))
        have HL4 := Lib.hid (HL3.out.on hd)
        clear hd HX3 HL3
        obtain ⟨q, hq⟩ : ∃ q : Nat, at_.tmod (S.size : Int) = (q : Int) := ⟨(at_ % (S.size : Int)).toNat, by
          rw [Int.tmod_eq_emod_of_nonneg HAt.out.1]
          have := Int.emod_nonneg at_ (show (S.size : Int) ≠ 0 by omega)
          omega⟩
        have hqs : q < S.size := by
          rw [Int.tmod_eq_emod_of_nonneg HAt.out.1] at hq
          have := Int.emod_lt_of_pos at_ (show (0 : Int) < (S.size : Int) by omega)
          omega
        have k1 : IntKind.i64.wrap at_ = at_ := IntWalk.i64_in _ (by have := HAt.out; omega)
        have k2 : IntKind.i64.wrap (q : Int) = (q : Int) := IntWalk.i64_in _ (by omega)
        have k3 : ((S.size : Int) == 0) = false := beq_eq_false_iff_ne.2 (by omega)
        have k4 : ((S.size : Int) = 0) = False := eq_false (by omega)
        have k5 : (S.size = 0) = False := eq_false (by omega)
        have p1 : (0 ≤ (q : Int)) = True := eq_true (by omega)
        have p2 : ((q : Int) < (S.size : Int)) = True := eq_true (by omega)
        obtain ⟨Y, hY⟩ : ∃ Y, Go.bits .xor .u8 (bt S (q : Int)) b = Y := ⟨_, rfl⟩
        obtain ⟨S2, hS2⟩ : ∃ S2, strOfNums ((bl S).set q Y) = S2 := ⟨_, rfl⟩
        have hx := xor_text S q hqs b HBb.out
        rw [hY, hS2] at hx
        have HXt := Lib.hid hx
        have hz2 : S2.size = S.size := by rw [← hS2, strOfNums_size, List.length_set]; exact AdM.bl_length S
        have HS2 := Lib.hid hS2
        clear hx hS2
        go_wp2_with (first
          | (refine wl_toBytes S rfl _ rfl rfl ?_; intro W5 c5 hbl hcell hfz; have HBl := Lib.hid hbl; have hc5 := hcell q hqs; have hf5 := hfz q hqs; have hback := bytes_back S w4.heap.size c5 q Y W5 hqs hcell; rw [HS2.out] at hback; clear hbl hcell hfz)
          | (refine wl_ofBytes _ S2 hback rfl _ rfl rfl ?_))
        have HX6 := Lib.hid (HX4.out.trans (HBl.out.mono HX4.out.size))
        have hm := (Mod.refl (· = w4.heap.size) W5).set ⟨w4.heap.size, q, none⟩ (.int .u8 Y) (.inl rfl)
        have HX7 := Lib.hid (HX6.out.trans (hm.below HX6.out.size (fun i hi (e : i = w4.heap.size) => by have := HX4.out.size; omega)))
        have HL7 := Lib.hid (hg.out.on HX7.out)
        generalize (W5.setCell ⟨w4.heap.size, q, none⟩ (.int .u8 Y)) = w7 at *
        clear hm hback hc5 hf5 HX4 HL4 HX6 HBl k1 k2 k3 k4 k5 p1 p2 hq hY HS2
        refine (readall_any S2 _ (by omega)).mono ?_
        rintro e w8 ⟨v, e0, rfl, hr, hd⟩
        have HX8 := Lib.hid (HX7.out.trans (hd.mono HX7.out.size))
        have HL8 := Lib.hid (HL7.out.on hd)
        clear hd HX7 HL7
        by_cases hb0 : b = 0
        · subst hb0
          have e2 := HXt.out.1 rfl
          subst e2
          obtain ⟨rfl, l', hR, hlen⟩ : e0 = .nilIface ∧ ∃ l' : List Op, Kd.R opk 30 w8 w7.heap.size (fun _ => True) v l' ∧ l'.length = n := by
            rcases hr with ⟨h1, l', h2, h3, h4, h5⟩ | ⟨_, h2, _⟩
            · exact ⟨h1, l', h2, by rw [← HS.out] at h5; rw [← HAll0.out]; exact (layAll_inj_len h5).symm⟩
            · exact absurd HS.out.symm (h2 l HOk.out (by omega))
          obtain ⟨A3, c3, rfl, _, _⟩ := Kd.R_reads hR
          rw [hlen]
          have hnn : ((n : Int) == (n : Int)) = true := beq_self_eq_true _
          clear hr hR hlen
          go_wp2_with fail
          refine (code_nil _).mono ?_
          rintro e w9 ⟨rfl, hd⟩
          have HX9 := Lib.hid (HX8.out.trans (hd.mono HX8.out.size))
          clear hd HX8
          go_wp2_with fail
          go_ret
          exact ⟨rfl, HX9.out⟩
        · have hsb := HXt.out.2 hb0 HGood.out
          obtain ⟨rfl, T, u, rfl, hi⟩ : v = .slice none 0 0 ∧ ∃ T u, e0 = .iface T u ∧ IsErr w8 e0 12 := by
            rcases hr with ⟨_, l', _, _, _, h5⟩ | ⟨h1, _, T, u, h3, h4⟩
            · exact absurd h5 (not_laid hsb l')
            · rcases h4 with ⟨_, h4⟩ | ⟨h4, _⟩
              · exact ⟨h1, T, u, h3, h4⟩
              · exact absurd hsb h4
          have HE8 := Lib.hid hi
          have c0 : (b == 0) = false := beq_eq_false_iff_ne.2 hb0
          have c0' : (b != 0) = true := by rw [bne, c0]; rfl
          have c0d : decide (b = 0) = false := decide_eq_false hb0
          clear hr hi hsb hb0
          go_wp2_with fail
          refine (code_c _ 12 _ HE8 HL8).mono ?_
          rintro e w9 ⟨rfl, hd⟩
          have HX9 := Lib.hid (HX8.out.trans (hd.mono HX8.out.size))
          clear hd HX8
          go_wp2_with fail
          go_ret
          exact ⟨rfl, HX9.out⟩
      · have HE3 := Lib.hid hie
        clear hie
        go_wp2_with fail
        refine (code_c _ 1 _ HE3 HL3).mono ?_
        rintro e w4 ⟨rfl, hd⟩
        have HX4 := Lib.hid (HX3.out.trans (hd.mono HX3.out.size))
        clear hd HX3 HL3
        go_wp2_with fail
        go_ret
        exact ⟨rfl, HX4.out⟩
    | succ k1 =>
      have hin : i < n := by omega
      have hil : i < l.length := by omega
      have c1 : decide ((i : Int) < (n : Int)) = true := decide_eq_true (by omega)
      have c1' : decide (i < n) = true := decide_eq_true (by omega)
      have q5 : IntKind.i64.wrap ((i : Int) + 1) = (i : Int) + 1 := IntWalk.i64_in _ (by omega)
      have p1 : (0 ≤ (i : Int)) = True := eq_true (by omega)
      have p2 : ((i : Int) < (n : Int)) = True := eq_true (by omega)
      obtain ⟨ad, rfl, hat⟩ := op_at HA.out i hil
      have HTk := Lib.hid (List.take_succ_eq_append_getElem hil)
      obtain ⟨x, hx⟩ : ∃ x, l[i] = x := ⟨_, rfl⟩
      rw [hx] at hat HTk
      have HP := Lib.hid hat
      clear hat hx
      go_wp2_with (first | (refine wl_loadRat (ad.add (i * 5)) x HP.out rfl _ rfl rfl ?_))
      cases hf : x.fewB with
      | false =>
        refine (few_c x 0 _ (Lib.hid (few0 hf))).mono ?_
        rintro e w3 ⟨rfl, hd⟩
        have HX3 := Lib.hid (HX.out.trans (hd.mono HX.out.size))
        clear hd
        go_wp2_with fail
        go_ret
        exact ⟨rfl, HX3.out⟩
      | true =>
        refine (few_c x 1 _ (Lib.hid (few1 hf))).mono ?_
        rintro e w3 ⟨rfl, hd⟩
        have HX3 := Lib.hid (HX.out.trans (hd.mono HX.out.size))
        have HL3 := Lib.hid (HL.out.on hd)
        have HA3 := Lib.hid (Kd.C_below HA.out hd)
        have HM3 := Lib.hid (Kd.R_below HM.out hd)
        have HP3 := Lib.hid (HP.out.on hd)
        clear hd HX HL HA HM HP hf
        go_wp2_with (first | (refine wl_loadRat (ad.add (i * 5)) x HP3.out rfl _ rfl rfl ?_))
        refine (of_c x _).mono ?_
        rintro e w4 ⟨rfl, hd⟩
        have HX4 := Lib.hid (HX3.out.trans (hd.mono HX3.out.size))
        have HL4 := Lib.hid (HL3.out.on hd)
        have HA4 := Lib.hid (Kd.C_below HA3.out hd)
        have HM4 := Lib.hid (Kd.R_below HM3.out hd)
        clear hd HX3 HL3 HA3 HM3 HP3
        have hlt : (l.take i).length = i := by rw [List.length_take]; omega
        go_wp2_with (first
          | (refine Kd.event_run rfl (exec_lit1 (o := x) rfl rfl _) ?_)
          | (at_builtin; refine Kd.R_append opk (w0 := W) W.heap.size rfl (.tmp 34) (.tmp 40) 35 30 (.agg Op.zero.a) 64 rfl Tryd.underlying35 infoO rfl (by decide) (by decide) _ (l.take i) x (ocs x) (fun _ => True) (fun _ => False) rfl rfl rfl (fun _ h => h.elim) (fun _ _ => trivial) HM4.out HX4.out HX4.out.size (by omega) ?_; intro v6 w6 hL6 hX6 hg6 hat6; rw [← HTk.out] at hL6; have HM6 := Lib.hid hL6; have HX6 := Lib.hid hX6; have HA6 := Lib.hid (Kd.C_below hA.out hX6); have HL6 := Lib.hid (hg.out.on hX6); clear hL6 hX6 hg6 hat6))
        go_roundg k1
        case measure => exact Nat.lt_succ_self _
        case rel => exact ⟨i + 1, by simp, by omega, HA6, HX6, HL6, HM6⟩
set_option maxHeartbeats 2000000 in
theorem many (A : Option Addr) (n c : Nat) (at_ b : Int) (W : World) (hn : 10 < n) (hm : n ≤ 9223372036854775807) (hg : Hid (Laid W)) : Calls Tryd.prog 7 #[.slice A n c, .int .u16 at_, .int .u8 b] W fun e w' => e = .returned (.bool true) ∧ Below W.heap.size W w' := by
  have g0 : decide ((n : Int) > 10) = true := decide_eq_true (by omega)
  have g1 : decide (10 < n) = true := decide_eq_true hn
  go_enter Tryd.func7, Tryd.ntmps7
  go_wp2_with fail
  refine (awake_c _).mono ?_
  rintro e w1 ⟨rfl, hd⟩
  have HX1 := Lib.hid hd
  clear hd
  go_wp2_with fail
  refine (awake_c _).mono ?_
  rintro e w2 ⟨rfl, hd⟩
  have HX2 := Lib.hid (HX1.out.trans (hd.mono HX1.out.size))
  clear hd
  go_wp2_with fail
  go_ret
  exact ⟨rfl, HX2.out⟩
theorem walk (A : Option Addr) (n c : Nat) (l : List Op) (at_ b : Int) (W : World) (hl : l.length = n) (hc : n ≤ c) (hA : Kd.C opk W A n l) (hw : ∀ s ∈ l, Wf s) (hat : (Lit.int .u16 at_).wf = true) (hb : (Lit.int .u8 b).wf = true) (hg : Hid (Laid W)) : Calls Tryd.prog 7 #[.slice A n c, .int .u16 at_, .int .u8 b] W fun e w' => e = .returned (.bool true) ∧ Below W.heap.size W w' := by
  have ha2 : 0 ≤ at_ ∧ at_ < 65536 := by simp [Lit.wf, IntKind.min, IntKind.max, IntKind.bits, IntKind.signed] at hat; omega
  have hb2 : 0 ≤ b ∧ b < 256 := by simp [Lit.wf, IntKind.min, IntKind.max, IntKind.bits, IntKind.signed] at hb; omega
  by_cases hn : n ≤ 10
  · exact walk0 A n c l at_ b W hl hc hn (Lib.hid hA) ha2 hb2 hg
  · exact many A n c at_ b W (by omega) (Kd.C_max hA) hg
end Go.Proofs.YtabhfopmblaohaaDoor.Opr.RowOperSpoilt
