/- OperPlays, the walk. -/
import Derived.Test.YtabhfopmblaohaaDoorOperRef
import Derived.Test.YtabhfopmblaohaaDoorOperNil
import Derived.Test.YtabhfopmblaohaaDoorOpArg
set_option linter.unusedVariables false
set_option linter.unusedSimpArgs false
namespace Go.Proofs.YtabhfopmblaohaaDoor.Opr.RowOperPlays
open Go.RowKit Go.Proofs.YtabhfopmblaohaaDoorW.PrintWords Go.Proofs.YtabhfopmblaohaaDoorW.PrintLast Go.Proofs.YtabhfopmblaohaaDoorW.PrintMore Go.Proofs.YtabhfopmblaohaaDoor.CdM Go.Proofs.YtabhfopmblaohaaDoor.Md Go.Proofs.YtabhfopmblaohaaDoor.Opr Go.Proofs.YtabhfopmblaohaaDoor.Rdr
open Go.Proofs.YtabhfopmblaohaaDoor.Err (Laid IsErr code_nil code_c Chain at_some at_nil)
theorem few0 {o : Op} (h : o.fewB = false) : (if o.fewB = true then (1 : Int) else 0) = 0 := by rw [h]; rfl
theorem few1 {o : Op} (h : o.fewB = true) : (if o.fewB = true then (1 : Int) else 0) = 1 := by rw [h]; rfl
theorem layAll_size {l : List Op} (h : AllOk l) (hn : l.length ≤ 1000) : (layAll l).size ≤ 13 + 409 * l.length := by
  have h1 := outs_size hn l.length (Nat.le_refl _) (fun j hj _ => h j hj)
  unfold layAll
  rw [ByteArray.size_append, AdQ.fourS_size]
  omega
theorem err_one (w : World) : IsErr w (errV 1) 1 := .inr ⟨_, .base 1⟩
def RightTo (l : List Op) (i : Nat) (R : Bool) : Prop := R = true ↔ ∀ j (hj : j < l.length), j < i → l[j].Ok
theorem RightTo.start (l : List Op) : RightTo l 0 true := ⟨fun _ j _ hj => absurd hj (by omega), fun _ => rfl⟩
theorem RightTo.next {l : List Op} {i : Nat} {R : Bool} (h : RightTo l i R) (hi : i < l.length) {x : Op} (hx : l[i] = x) : RightTo l (i + 1) (if R = true then x.okB else false) := by
  unfold RightTo at *
  cases R with
  | true =>
    rw [if_pos rfl, Op.okB_true, ← hx]
    have h0 := h.1 rfl
    constructor
    · intro hk j hj hji
      by_cases e : j = i
      · subst e; exact hk
      · exact h0 j hj (by omega)
    · intro g; exact g i hi (by omega)
  | false =>
    rw [if_neg (by simp)]
    constructor
    · intro e; simp at e
    · intro g
      exact (h.2 (fun j hj hji => g j hj (by omega)))
theorem RightTo.all {l : List Op} {R : Bool} (h : RightTo l l.length R) : R = true ↔ AllOk l := ⟨fun e j hj => h.1 e j hj hj, fun g => h.2 (fun j hj _ => g j hj)⟩
theorem grown_none {w w1 : World} (h : w.grownBy w1 none) : Below w.heap.size w w1 := pw_below_grown (Below.refl _ _) none (Nat.le_refl _) h (fun k e => by cases e)
set_option maxHeartbeats 16000000 in
set_option maxRecDepth 100000 in
theorem walk0 (A : Option Addr) (n c : Nat) (l : List Op) (W : World) (hl : l.length = n) (hc : n ≤ c) (hn : n ≤ 60) (hA : Hid (Kd.C opk W A n l)) (hg : Hid (Laid W)) : Calls Tryd.prog 4 #[.slice A n c] W fun e w' => e = .returned (.bool true) ∧ Below W.heap.size W w' := by
  have g0 : decide ((n : Int) > 60) = false := decide_eq_false (by omega)
  have g1 : decide (60 < n) = false := decide_eq_false (by omega)
  go_enter Tryd.func4, Tryd.ntmps4
  go_wp2_with fail
  refine (awake_c _).mono ?_
  rintro e w1 ⟨rfl, hd⟩
  have HX1 := Lib.hid hd
  have HL1 := Lib.hid (hg.out.on hd)
  have HA1 := Lib.hid (Kd.C_below hA.out hd)
  clear hd
  go_wp2_with fail
  go_loopg [3, 4, 5] n (fun kq v0 v1 v2 wr => ∃ (i : Nat) (R : Bool), v0 = .bool R ∧ v2 = .int .i64 (i : Int) ∧ kq + i = n ∧ Hid (RightTo l i R) ∧ Hid (Kd.C opk wr A n l) ∧ Hid (Below W.heap.size W wr) ∧ Hid (Laid wr) ∧ Hid (Kd.R opk 30 wr W.heap.size (fun _ => True) v1 (l.take i)))
  case atStart => exact ⟨0, true, rfl, rfl, by omega, Lib.hid (RightTo.start l), HA1, HX1, HL1, Lib.hid (Kd.R_nil _ _ _ _ _)⟩
  case round =>
    clear HA1 HX1 HL1
    obtain ⟨i, R, rfl, rfl, hk, HR, HA, HX, HL, HM⟩ := hrel
    cases gk with
    | zero =>
      have hin : i = n := by omega
      have c1 : decide ((i : Int) < (n : Int)) = false := decide_eq_false (by omega)
      have c1' : decide (i < n) = false := decide_eq_false (by omega)
      have ht : l.take i = l := List.take_of_length_le (by omega)
      rw [ht] at HM
      obtain ⟨A2, cc, hu7, hcc, hC⟩ := Kd.R_reads HM.out
      rw [hl] at hcc hC hu7
      subst hu7
      have HC := Lib.hid hC
      have HAll0 := Lib.hid hl
      have hRl := (show RightTo l l.length R from by rw [hl, ← hin]; exact HR.out).all
      clear ht HM hC hk
      go_wp2_with fail
      refine (layall_c A2 n cc l _ hl HC (by omega) hcc).mono ?_
      rintro e w23 ⟨he, hd⟩
      clear HC
      have HX23 := Lib.hid (HX.out.trans (hd.mono HX.out.size))
      have HL23 := Lib.hid (HL.out.on hd)
      have HA23 := Lib.hid (Kd.C_below HA.out hd)
      clear hd HX HL HA
      rcases he with ⟨hok, rfl⟩ | ⟨hno, T, u, rfl, hie⟩
      · have HOk := Lib.hid hok
        obtain rfl : R = true := hRl.2 hok
        have hYY : ((layAll l).toList == (layAll l).toList) = true := beq_self_eq_true _
        obtain ⟨S, hS⟩ : ∃ S, layAll l = S := ⟨_, rfl⟩
        rw [hS] at hYY ⊢
        have HS := Lib.hid hS
        clear hok hS hRl
        go_wp2_with (first
          | (refine Kd.R_make opk (w0 := W) W.heap.size 30 rfl rfl 35 _ _ rfl 1001 rfl rfl Tryd.underlying35 (.agg Op.zero.a) 64 infoO rfl (by decide) (by decide) Op.zero (ok := fun _ => True) (okp := fun _ => False) rfl (fun _ h => h.elim) trivial (by omega) (by decide) HX23.out HX23.out.size ?_; intro v6 w24 hL6 hX6 hg6 hat6; have hd : Below w23.heap.size w23 w24 := grown_none hg6; obtain ⟨A4, c4, hv6⟩ := Kd.R_slice hL6; rw [show (List.replicate (1001 : Int).toNat Op.zero).length = 1001 from List.length_replicate] at hv6; subst hv6; clear hL6 hX6 hg6 hat6))
        have HX24 := Lib.hid (HX23.out.trans (hd.mono HX23.out.size))
        have HL24 := Lib.hid (HL23.out.on hd)
        have HA24 := Lib.hid (Kd.C_below HA23.out hd)
        clear hd HX23 HL23 HA23
        refine (layall_many A4 1001 c4 _ (by omega) (by omega)).mono ?_
        rintro e w25 ⟨⟨T2, u2, rfl, hg2⟩, hd⟩
        have HG25 := Lib.hid hg2
        clear hg2
        have HX25 := Lib.hid (HX24.out.trans (hd.mono HX24.out.size))
        have HL25 := Lib.hid (HL24.out.on hd)
        have HA25 := Lib.hid (Kd.C_below HA24.out hd)
        clear hd HX24 HL24 HA24
        go_wp2_with fail
        refine (oread_nil _).mono ?_
        rintro e w26 ⟨rfl, hd⟩
        have HX26 := Lib.hid (HX25.out.trans (hd.mono HX25.out.size))
        have HL26 := Lib.hid (HL25.out.on hd)
        have HA26 := Lib.hid (Kd.C_below HA25.out hd)
        have HG26 := Lib.hid (HG25.out.on hd)
        clear hd HX25 HL25 HA25 HG25
        go_wp2_with (first
          | (refine wl_allocO rfl rfl ?_)
          | (refine wl_storeOn Op.zero.a rfl Op.zero rfl _ _ rfl rfl rfl ?_))
        have hd : Below w26.heap.size w26 (w26.alloc (Obj.cells Op.zero.a 30 (0, 0))) := (Below.refl _ _).alloc (Nat.le_refl _) _
        have HX27 := Lib.hid (HX26.out.trans (hd.mono HX26.out.size))
        have HL27 := Lib.hid (HL26.out.on hd)
        have HA27 := Lib.hid (Kd.C_below HA26.out hd)
        have HG27 := Lib.hid (HG26.out.on hd)
        generalize (w26.alloc (Obj.cells Op.zero.a 30 (0, 0))) = w27 at *
        clear hd HX26 HL26 HA26 HG26
        refine (code_nil _).mono ?_
        rintro e w28 ⟨rfl, hd⟩
        have HX28 := Lib.hid (HX27.out.trans (hd.mono HX27.out.size))
        have HL28 := Lib.hid (HL27.out.on hd)
        have HA28 := Lib.hid (Kd.C_below HA27.out hd)
        have HG28 := Lib.hid (HG27.out.on hd)
        clear hd HX27 HL27 HA27 HG27
        go_wp2_with fail
        refine (rlayall_c A n c l _ HAll0.out HA28 hn hc HOk).mono ?_
        rintro e w29 ⟨rfl, hd⟩
        rw [HS.out]
        have HX29 := Lib.hid (HX28.out.trans (hd.mono HX28.out.size))
        have HL29 := Lib.hid (HL28.out.on hd)
        have HG29 := Lib.hid (HG28.out.on hd)
        clear hd HX28 HL28 HG28
        go_wp2_with fail
        refine (code_c _ 15 _ HG29 HL29).mono ?_
        rintro e w30 ⟨rfl, hd⟩
        have HX30 := Lib.hid (HX29.out.trans (hd.mono HX29.out.size))
        have HL30 := Lib.hid (HL29.out.on hd)
        clear hd HX29 HL29
        go_wp2_with fail
        have HE30 := Lib.hid (err_one w30)
        refine (code_c _ 1 _ HE30 HL30).mono ?_
        rintro e w31 ⟨rfl, hd⟩
        have HX31 := Lib.hid (HX30.out.trans (hd.mono HX30.out.size))
        clear hd HX30
        go_wp2_with fail
        go_ret
        exact ⟨rfl, HX31.out⟩
      · obtain rfl : R = false := by
          cases R with
          | false => rfl
          | true => exact absurd (hRl.1 rfl) hno
        have HE23 := Lib.hid hie
        clear hie hno hRl
        go_wp2_with (first
          | (refine Kd.R_make opk (w0 := W) W.heap.size 30 rfl rfl 35 _ _ rfl 1001 rfl rfl Tryd.underlying35 (.agg Op.zero.a) 64 infoO rfl (by decide) (by decide) Op.zero (ok := fun _ => True) (okp := fun _ => False) rfl (fun _ h => h.elim) trivial (by omega) (by decide) HX23.out HX23.out.size ?_; intro v6 w24 hL6 hX6 hg6 hat6; have hd : Below w23.heap.size w23 w24 := grown_none hg6; obtain ⟨A4, c4, hv6⟩ := Kd.R_slice hL6; rw [show (List.replicate (1001 : Int).toNat Op.zero).length = 1001 from List.length_replicate] at hv6; subst hv6; clear hL6 hX6 hg6 hat6))
        have HX24 := Lib.hid (HX23.out.trans (hd.mono HX23.out.size))
        have HL24 := Lib.hid (HL23.out.on hd)
        have HA24 := Lib.hid (Kd.C_below HA23.out hd)
        have HE24 := Lib.hid (HE23.out.on hd)
        clear hd HX23 HL23 HA23 HE23
        refine (layall_many A4 1001 c4 _ (by omega) (by omega)).mono ?_
        rintro e w25 ⟨⟨T2, u2, rfl, hg2⟩, hd⟩
        have HG25 := Lib.hid hg2
        clear hg2
        have HX25 := Lib.hid (HX24.out.trans (hd.mono HX24.out.size))
        have HL25 := Lib.hid (HL24.out.on hd)
        have HA25 := Lib.hid (Kd.C_below HA24.out hd)
        have HE25 := Lib.hid (HE24.out.on hd)
        clear hd HX24 HL24 HA24 HE24
        go_wp2_with fail
        refine (oread_nil _).mono ?_
        rintro e w26 ⟨rfl, hd⟩
        have HX26 := Lib.hid (HX25.out.trans (hd.mono HX25.out.size))
        have HL26 := Lib.hid (HL25.out.on hd)
        have HA26 := Lib.hid (Kd.C_below HA25.out hd)
        have HE26 := Lib.hid (HE25.out.on hd)
        have HG26 := Lib.hid (HG25.out.on hd)
        clear hd HX25 HL25 HA25 HE25 HG25
        go_wp2_with (first
          | (refine wl_allocO rfl rfl ?_)
          | (refine wl_storeOn Op.zero.a rfl Op.zero rfl _ _ rfl rfl rfl ?_))
        have hd : Below w26.heap.size w26 (w26.alloc (Obj.cells Op.zero.a 30 (0, 0))) := (Below.refl _ _).alloc (Nat.le_refl _) _
        have HX27 := Lib.hid (HX26.out.trans (hd.mono HX26.out.size))
        have HL27 := Lib.hid (HL26.out.on hd)
        have HA27 := Lib.hid (Kd.C_below HA26.out hd)
        have HE27 := Lib.hid (HE26.out.on hd)
        have HG27 := Lib.hid (HG26.out.on hd)
        generalize (w26.alloc (Obj.cells Op.zero.a 30 (0, 0))) = w27 at *
        clear hd HX26 HL26 HA26 HE26 HG26
        refine (code_c _ 1 _ HE27 HL27).mono ?_
        rintro e w28 ⟨rfl, hd⟩
        have HX28 := Lib.hid (HX27.out.trans (hd.mono HX27.out.size))
        have HL28 := Lib.hid (HL27.out.on hd)
        have HA28 := Lib.hid (Kd.C_below HA27.out hd)
        have HE28 := Lib.hid (HE27.out.on hd)
        have HG28 := Lib.hid (HG27.out.on hd)
        clear hd HX27 HL27 HA27 HE27 HG27
        go_wp2_with fail
        refine (code_c _ 1 _ HE28 HL28).mono ?_
        rintro e w29 ⟨rfl, hd⟩
        have HX29 := Lib.hid (HX28.out.trans (hd.mono HX28.out.size))
        have HL29 := Lib.hid (HL28.out.on hd)
        have HG29 := Lib.hid (HG28.out.on hd)
        clear hd HX28 HL28 HG28
        go_wp2_with fail
        refine (code_c _ 15 _ HG29 HL29).mono ?_
        rintro e w30 ⟨rfl, hd⟩
        have HX30 := Lib.hid (HX29.out.trans (hd.mono HX29.out.size))
        have HL30 := Lib.hid (HL29.out.on hd)
        clear hd HX29 HL29
        go_wp2_with fail
        have HE30 := Lib.hid (err_one w30)
        refine (code_c _ 1 _ HE30 HL30).mono ?_
        rintro e w31 ⟨rfl, hd⟩
        have HX31 := Lib.hid (HX30.out.trans (hd.mono HX30.out.size))
        clear hd HX30
        go_wp2_with fail
        go_ret
        exact ⟨rfl, HX31.out⟩
    | succ k1 =>
      have hin : i < n := by omega
      have hil : i < l.length := by omega
      have c1 : decide ((i : Int) < (n : Int)) = true := decide_eq_true (by omega)
      have c1' : decide (i < n) = true := decide_eq_true (by omega)
      have q5 : IntKind.i64.wrap ((i : Int) + 1) = (i : Int) + 1 := IntWalk.i64_in _ (by omega)
      have p1 : (0 ≤ (i : Int)) = True := eq_true (by omega)
      have p2 : ((i : Int) < (n : Int)) = True := eq_true (by omega)
      obtain ⟨ad, rfl, hat⟩ := op_at HA.out i hil
      have HTk := Lib.hid (List.take_succ_eq_append_getElem hil)
      obtain ⟨x, hx⟩ : ∃ x, l[i] = x := ⟨_, rfl⟩
      rw [hx] at hat HTk
      have HP := Lib.hid hat
      have HXe := Lib.hid hx
      clear hat hx
      go_wp2_with (first | (refine wl_loadRat (ad.add (i * 5)) x HP.out rfl _ rfl rfl ?_))
      cases hf : x.fewB with
      | false =>
        refine (few_c x 0 _ (Lib.hid (few0 hf))).mono ?_
        rintro e w3 ⟨rfl, hd⟩
        have HX3 := Lib.hid (HX.out.trans (hd.mono HX.out.size))
        clear hd
        go_wp2_with fail
        go_ret
        exact ⟨rfl, HX3.out⟩
      | true =>
        refine (few_c x 1 _ (Lib.hid (few1 hf))).mono ?_
        rintro e w3 ⟨rfl, hd⟩
        have HX3 := Lib.hid (HX.out.trans (hd.mono HX.out.size))
        have HL3 := Lib.hid (HL.out.on hd)
        have HA3 := Lib.hid (Kd.C_below HA.out hd)
        have HM3 := Lib.hid (Kd.R_below HM.out hd)
        have HP3 := Lib.hid (HP.out.on hd)
        clear hd HX HL HA HM HP
        clear hf
        have hlt : (l.take i).length = i := by rw [List.length_take]; omega
        go_wp2_with (first | (refine wl_loadRat (ad.add (i * 5)) x HP3.out rfl _ rfl rfl ?_))
        refine (of_c x _).mono ?_
        rintro e w4 ⟨rfl, hd⟩
        have HX4 := Lib.hid (HX3.out.trans (hd.mono HX3.out.size))
        have HL4 := Lib.hid (HL3.out.on hd)
        have HA4 := Lib.hid (Kd.C_below HA3.out hd)
        have HM4 := Lib.hid (Kd.R_below HM3.out hd)
        have HP4 := Lib.hid (HP3.out.on hd)
        clear hd HX3 HL3 HA3 HM3 HP3
        go_wp2_with fail
        by_cases hok : x.Ok
        · have HOkx := Lib.hid hok
          have HOkB := Lib.hid (Op.okB_true.2 hok)
          clear hok
          refine (lay_ok x _ HOkx).mono ?_
          rintro e w15 ⟨rfl, hd⟩
          have HX15 := Lib.hid (HX4.out.trans (hd.mono HX4.out.size))
          have HL15 := Lib.hid (HL4.out.on hd)
          have HA15 := Lib.hid (Kd.C_below HA4.out hd)
          have HM15 := Lib.hid (Kd.R_below HM4.out hd)
          have HP15 := Lib.hid (HP4.out.on hd)
          clear hd HX4 HL4 HA4 HM4 HP4
          have hYY : (x.lay.toList == x.lay.toList) = true := beq_self_eq_true _
          obtain ⟨Y, hY⟩ : ∃ Y, x.lay = Y := ⟨_, rfl⟩
          rw [hY] at hYY ⊢
          have HY := Lib.hid hY
          clear hY
          go_wp2_with (first | (refine wl_loadRat (ad.add (i * 5)) x HP15.out rfl _ rfl rfl ?_))
          refine (rright_c x _).mono ?_
          rintro e w16 ⟨rfl, hd⟩
          rw [HOkB.out]
          have HX16 := Lib.hid (HX15.out.trans (hd.mono HX15.out.size))
          have HL16 := Lib.hid (HL15.out.on hd)
          have HA16 := Lib.hid (Kd.C_below HA15.out hd)
          have HM16 := Lib.hid (Kd.R_below HM15.out hd)
          have HP16 := Lib.hid (HP15.out.on hd)
          clear hd HX15 HL15 HA15 HM15 HP15
          go_wp2_with fail
          refine (code_nil _).mono ?_
          rintro e w17 ⟨rfl, hd⟩
          have HX17 := Lib.hid (HX16.out.trans (hd.mono HX16.out.size))
          have HL17 := Lib.hid (HL16.out.on hd)
          have HA17 := Lib.hid (Kd.C_below HA16.out hd)
          have HM17 := Lib.hid (Kd.R_below HM16.out hd)
          have HP17 := Lib.hid (HP16.out.on hd)
          clear hd HX16 HL16 HA16 HM16 HP16
          have b0 := HP17.out.c0
          have b1 := HP17.out.c1
          have b2 := HP17.out.c2
          have b3 := HP17.out.c3
          have b4 := HP17.out.c4
          go_wp2_with fail
          clear b0 b1 b2 b3 b4
          refine (rlay_c x _ HOkx).mono ?_
          rintro e w18 ⟨rfl, hd⟩
          rw [HY.out]
          have HX18 := Lib.hid (HX17.out.trans (hd.mono HX17.out.size))
          have HL18 := Lib.hid (HL17.out.on hd)
          have HA18 := Lib.hid (Kd.C_below HA17.out hd)
          have HM18 := Lib.hid (Kd.R_below HM17.out hd)
          have HP18 := Lib.hid (HP17.out.on hd)
          clear hd HX17 HL17 HA17 HM17 HP17
          cases R with
          | true =>
            have HRn : Hid (RightTo l (i + 1) true) := Lib.hid (by have h := HR.out.next hil HXe.out; rw [HOkB.out] at h; exact h)
            go_wp2_with (first | (refine wl_loadRat (ad.add (i * 5)) x HP18.out rfl _ rfl rfl ?_))
            refine (of_c x _).mono ?_
            rintro e w19 ⟨rfl, hd⟩
            have HX19 := Lib.hid (HX18.out.trans (hd.mono HX18.out.size))
            have HL19 := Lib.hid (HL18.out.on hd)
            have HA19 := Lib.hid (Kd.C_below HA18.out hd)
            have HM19 := Lib.hid (Kd.R_below HM18.out hd)
            clear hd HX18 HL18 HA18 HM18
            clear HP18
            go_wp2_with (first
              | (refine Kd.event_run rfl (exec_lit1 (o := x) rfl rfl _) ?_)
              | (at_builtin; refine Kd.R_append opk (w0 := W) W.heap.size rfl (.tmp 70) (.tmp 76) 35 30 (.agg Op.zero.a) 64 rfl Tryd.underlying35 infoO rfl (by decide) (by decide) _ (l.take i) x (ocs x) (fun _ => True) (fun _ => False) rfl rfl rfl (fun _ h => h.elim) (fun _ _ => trivial) HM19.out HX19.out HX19.out.size (by omega) ?_; intro v6 w6 hL6 hX6 hg6 hat6; rw [← HTk.out] at hL6; have HM6 := Lib.hid hL6; have HX6 := Lib.hid hX6; have HA6 := Lib.hid (Kd.C_below hA.out hX6); have HL6 := Lib.hid (hg.out.on hX6); clear hL6 hX6 hg6 hat6))
            go_roundg k1
            case measure => exact Nat.lt_succ_self _
            case rel => exact ⟨i + 1, true, rfl, by simp, by omega, HRn, HA6, HX6, HL6, HM6⟩
          | false =>
            have HRn : Hid (RightTo l (i + 1) false) := Lib.hid (by have h := HR.out.next hil HXe.out; rw [HOkB.out] at h; exact h)
            go_wp2_with (first | (refine wl_loadRat (ad.add (i * 5)) x HP18.out rfl _ rfl rfl ?_))
            refine (of_c x _).mono ?_
            rintro e w19 ⟨rfl, hd⟩
            have HX19 := Lib.hid (HX18.out.trans (hd.mono HX18.out.size))
            have HL19 := Lib.hid (HL18.out.on hd)
            have HA19 := Lib.hid (Kd.C_below HA18.out hd)
            have HM19 := Lib.hid (Kd.R_below HM18.out hd)
            clear hd HX18 HL18 HA18 HM18
            clear HP18
            go_wp2_with (first
              | (refine Kd.event_run rfl (exec_lit1 (o := x) rfl rfl _) ?_)
              | (at_builtin; refine Kd.R_append opk (w0 := W) W.heap.size rfl (.tmp 70) (.tmp 76) 35 30 (.agg Op.zero.a) 64 rfl Tryd.underlying35 infoO rfl (by decide) (by decide) _ (l.take i) x (ocs x) (fun _ => True) (fun _ => False) rfl rfl rfl (fun _ h => h.elim) (fun _ _ => trivial) HM19.out HX19.out HX19.out.size (by omega) ?_; intro v6 w6 hL6 hX6 hg6 hat6; rw [← HTk.out] at hL6; have HM6 := Lib.hid hL6; have HX6 := Lib.hid hX6; have HA6 := Lib.hid (Kd.C_below hA.out hX6); have HL6 := Lib.hid (hg.out.on hX6); clear hL6 hX6 hg6 hat6))
            go_roundg k1
            case measure => exact Nat.lt_succ_self _
            case rel => exact ⟨i + 1, false, rfl, by simp, by omega, HRn, HA6, HX6, HL6, HM6⟩
        · have HNo := Lib.hid (Op.okB_false.2 hok)
          have HOkB := HNo
          clear hok
          refine (lay_no x _ HNo).mono ?_
          rintro e w15 ⟨⟨T, u, rfl, he⟩, hd⟩
          have HE15 := Lib.hid he
          clear he
          have HX15 := Lib.hid (HX4.out.trans (hd.mono HX4.out.size))
          have HL15 := Lib.hid (HL4.out.on hd)
          have HA15 := Lib.hid (Kd.C_below HA4.out hd)
          have HM15 := Lib.hid (Kd.R_below HM4.out hd)
          have HP15 := Lib.hid (HP4.out.on hd)
          clear hd HX4 HL4 HA4 HM4 HP4
          go_wp2_with (first | (refine wl_loadRat (ad.add (i * 5)) x HP15.out rfl _ rfl rfl ?_))
          refine (rright_c x _).mono ?_
          rintro e w16 ⟨rfl, hd⟩
          rw [HOkB.out]
          have HX16 := Lib.hid (HX15.out.trans (hd.mono HX15.out.size))
          have HL16 := Lib.hid (HL15.out.on hd)
          have HA16 := Lib.hid (Kd.C_below HA15.out hd)
          have HM16 := Lib.hid (Kd.R_below HM15.out hd)
          have HP16 := Lib.hid (HP15.out.on hd)
          have HE16 := Lib.hid (HE15.out.on hd)
          clear hd HX15 HL15 HA15 HM15 HP15 HE15
          go_wp2_with fail
          refine (code_c _ 1 _ HE16 HL16).mono ?_
          rintro e w17 ⟨rfl, hd⟩
          have HX17 := Lib.hid (HX16.out.trans (hd.mono HX16.out.size))
          have HL17 := Lib.hid (HL16.out.on hd)
          have HA17 := Lib.hid (Kd.C_below HA16.out hd)
          have HM17 := Lib.hid (Kd.R_below HM16.out hd)
          have HP17 := Lib.hid (HP16.out.on hd)
          clear hd HX16 HL16 HA16 HM16 HP16
          cases R with
          | true =>
            have HRn : Hid (RightTo l (i + 1) false) := Lib.hid (by have h := HR.out.next hil HXe.out; rw [HOkB.out] at h; exact h)
            go_wp2_with (first | (refine wl_loadRat (ad.add (i * 5)) x HP17.out rfl _ rfl rfl ?_))
            refine (of_c x _).mono ?_
            rintro e w18 ⟨rfl, hd⟩
            have HX18 := Lib.hid (HX17.out.trans (hd.mono HX17.out.size))
            have HL18 := Lib.hid (HL17.out.on hd)
            have HA18 := Lib.hid (Kd.C_below HA17.out hd)
            have HM18 := Lib.hid (Kd.R_below HM17.out hd)
            clear hd HX17 HL17 HA17 HM17
            clear HP17
            go_wp2_with (first
              | (refine Kd.event_run rfl (exec_lit1 (o := x) rfl rfl _) ?_)
              | (at_builtin; refine Kd.R_append opk (w0 := W) W.heap.size rfl (.tmp 70) (.tmp 76) 35 30 (.agg Op.zero.a) 64 rfl Tryd.underlying35 infoO rfl (by decide) (by decide) _ (l.take i) x (ocs x) (fun _ => True) (fun _ => False) rfl rfl rfl (fun _ h => h.elim) (fun _ _ => trivial) HM18.out HX18.out HX18.out.size (by omega) ?_; intro v6 w6 hL6 hX6 hg6 hat6; rw [← HTk.out] at hL6; have HM6 := Lib.hid hL6; have HX6 := Lib.hid hX6; have HA6 := Lib.hid (Kd.C_below hA.out hX6); have HL6 := Lib.hid (hg.out.on hX6); clear hL6 hX6 hg6 hat6))
            go_roundg k1
            case measure => exact Nat.lt_succ_self _
            case rel => exact ⟨i + 1, false, rfl, by simp, by omega, HRn, HA6, HX6, HL6, HM6⟩
          | false =>
            have HRn : Hid (RightTo l (i + 1) false) := Lib.hid (by have h := HR.out.next hil HXe.out; rw [HOkB.out] at h; exact h)
            go_wp2_with (first | (refine wl_loadRat (ad.add (i * 5)) x HP17.out rfl _ rfl rfl ?_))
            refine (of_c x _).mono ?_
            rintro e w18 ⟨rfl, hd⟩
            have HX18 := Lib.hid (HX17.out.trans (hd.mono HX17.out.size))
            have HL18 := Lib.hid (HL17.out.on hd)
            have HA18 := Lib.hid (Kd.C_below HA17.out hd)
            have HM18 := Lib.hid (Kd.R_below HM17.out hd)
            clear hd HX17 HL17 HA17 HM17
            clear HP17
            go_wp2_with (first
              | (refine Kd.event_run rfl (exec_lit1 (o := x) rfl rfl _) ?_)
              | (at_builtin; refine Kd.R_append opk (w0 := W) W.heap.size rfl (.tmp 70) (.tmp 76) 35 30 (.agg Op.zero.a) 64 rfl Tryd.underlying35 infoO rfl (by decide) (by decide) _ (l.take i) x (ocs x) (fun _ => True) (fun _ => False) rfl rfl rfl (fun _ h => h.elim) (fun _ _ => trivial) HM18.out HX18.out HX18.out.size (by omega) ?_; intro v6 w6 hL6 hX6 hg6 hat6; rw [← HTk.out] at hL6; have HM6 := Lib.hid hL6; have HX6 := Lib.hid hX6; have HA6 := Lib.hid (Kd.C_below hA.out hX6); have HL6 := Lib.hid (hg.out.on hX6); clear hL6 hX6 hg6 hat6))
            go_roundg k1
            case measure => exact Nat.lt_succ_self _
            case rel => exact ⟨i + 1, false, rfl, by simp, by omega, HRn, HA6, HX6, HL6, HM6⟩
set_option maxHeartbeats 2000000 in
theorem many (A : Option Addr) (n c : Nat) (W : World) (hn : 60 < n) (hm : n ≤ 9223372036854775807) (hg : Hid (Laid W)) : Calls Tryd.prog 4 #[.slice A n c] W fun e w' => e = .returned (.bool true) ∧ Below W.heap.size W w' := by
  have g0 : decide ((n : Int) > 60) = true := decide_eq_true (by omega)
  have g1 : decide (60 < n) = true := decide_eq_true hn
  go_enter Tryd.func4, Tryd.ntmps4
  go_wp2_with fail
  refine (awake_c _).mono ?_
  rintro e w1 ⟨rfl, hd⟩
  have HX1 := Lib.hid hd
  clear hd
  go_wp2_with fail
  refine (awake_c _).mono ?_
  rintro e w2 ⟨rfl, hd⟩
  have HX2 := Lib.hid (HX1.out.trans (hd.mono HX1.out.size))
  clear hd
  go_wp2_with fail
  go_ret
  exact ⟨rfl, HX2.out⟩
theorem walk (A : Option Addr) (n c : Nat) (l : List Op) (W : World) (hl : l.length = n) (hc : n ≤ c) (hA : Kd.C opk W A n l) (hw : ∀ s ∈ l, Wf s) (hg : Hid (Laid W)) : Calls Tryd.prog 4 #[.slice A n c] W fun e w' => e = .returned (.bool true) ∧ Below W.heap.size W w' := by
  by_cases hn : n ≤ 60
  · exact walk0 A n c l W hl hc hn (Lib.hid hA) hg
  · exact many A n c W (by omega) (Kd.C_max hA) hg
end Go.Proofs.YtabhfopmblaohaaDoor.Opr.RowOperPlays
