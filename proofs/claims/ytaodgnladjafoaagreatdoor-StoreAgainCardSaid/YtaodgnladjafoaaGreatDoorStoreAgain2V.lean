/- Words that the proof uses. -/
import Derived.Test.YtaodgnladjafoaaGreatDoorAgain01V
set_option linter.unusedVariables false
set_option linter.unusedSimpArgs false
namespace Go.Proofs.YtaodgnladjafoaaGreatDoor.Sto
open Go.RowKit Go.Proofs.YtaodgnladjafoaaGreatDoorW.PrintWords Go.Proofs.YtaodgnladjafoaaGreatDoorW.PrintLast Go.Proofs.YtaodgnladjafoaaGreatDoorW.PrintMore Go.Proofs.YtaodgnladjafoaaGreatDoor.Md Go.Proofs.YtaodgnladjafoaaGreatDoor.Mni Go.Proofs.YtaodgnladjafoaaGreatDoor.QStoreLasts
open Go.Proofs.YtaodgnladjafoaaGreatDoor.Dk (Dsk IsD Ft mayN)
open Go.Proofs.YtaodgnladjafoaaGreatDoor.Slt (Sl switched bestOf)
open Go.Proofs.YtaodgnladjafoaaGreatDoor.Err (Laid IsErr code_nil code_c Chain at_some at_nil)
theorem IsS.outE {w w1 : World} {q : Pl} {s : St} {S : Nat → Prop} (h : IsS w q oE emptyM s) (k : Mod S w w1) (hS : ∀ i, Fs q i → ¬ S i) : IsS w1 q oE emptyM s :=
  ⟨k.blk h.blk (hS _ (.inl rfl)), h.dsk.mod k (fun i hi => hS i (.inr (.inr (.inl hi)))), h.held.mod k (hS _ (.inr (.inl rfl))), row_on (α := Rf) rfl h.put k (fun b hb => hS b (.inr (.inr (.inr hb)))), fun w2 _ _ => at_empty w2, h.n1, h.n2, h.n3⟩
structure Ra (W w : World) (q : Pl) (s : St) (p : Value) (l : List Rf) : Prop where
  run : Run W w q oE emptyM s
  pt : rk.R 36 w 0 (fun _ => True) p l
  pn : ∀ b, p.ownBlock = some b → ¬ Fs q b ∧ W.heap.size ≤ b
theorem Ra.on {W w w1 : World} {q : Pl} {s : St} {p : Value} {l : List Rf} (h : Ra W w q s p l) (k : Below w.heap.size w w1) : Ra W w1 q s p l := ⟨h.run.on k, Kd.R_below h.pt k, h.pn⟩
theorem row_out {w w1 : World} {q q1 : Pl} {p : Value} {l : List Rf} (h : rk.R 36 w 0 (fun _ => True) p l) (hn : ∀ b, p.ownBlock = some b → ¬ Fs q b) (k : Stp w q w1 q1) : rk.R 36 w1 0 (fun _ => True) p l ∧ ∀ b, p.ownBlock = some b → ¬ Fs q1 b :=
  ⟨row_on (α := Rf) rfl h k.mod (fun b hb f => hn b hb f), fun b hb => (k.out ((Kd.R_bound h).1 b hb).2.2.1 (hn b hb)).1⟩
theorem Ra.step {W w w1 : World} {q q1 : Pl} {s s1 : St} {p : Value} {l : List Rf} (h : Ra W w q s p l) (k : Stp w q w1 q1) (hi : IsS w1 q1 oE emptyM s1) : Ra W w1 q1 s1 p l := by
  have a := row_out h.pt (fun b hb => (h.pn b hb).1) k
  exact ⟨h.run.step k hi, a.1, fun b hb => ⟨a.2 b hb, (h.pn b hb).2⟩⟩
theorem Ra.push {W w w1 : World} {q : Pl} {s : St} {p p1 : Value} {l l1 : List Rf} (h : Ra W w q s p l) (hg : w.grownBy w1 p.ownBlock) (hat : p1.ownBlock = p.ownBlock ∨ ∃ b, p1.ownBlock = some b ∧ w.heap.size ≤ b) (hp1 : rk.R 36 w1 0 (fun _ => True) p1 l1) : Ra W w1 q s p1 l1 := by
  have k := mod_grown hg
  refine ⟨⟨h.run.bel.trans (k.below h.run.bel.size (fun i hi e => by have := (h.pn i e).2; omega)), h.run.fr, h.run.is.outE k (fun i hi e => (h.pn i e).1 hi)⟩, hp1, fun b hb => ?_⟩
  rcases hat with e | ⟨b2, e, h2⟩
  · exact h.pn b (by rw [← e]; exact hb)
  · rw [e] at hb
    cases hb
    exact ⟨fun f => by have := h.run.is.lt b f; omega, Nat.le_trans h.run.bel.size h2⟩
theorem may_of {d : Dsk} {i : Int} (h : d.down = false) (h0 : 0 ≤ i) (h1 : i < d.size) : mayN d i = 0 := by
  unfold mayN
  rw [h, if_neg (by decide), if_neg (by omega)]
theorem taken_m (n : Nat) (Z R M H : Nat) (v p : Value) (o : Mni.Loc) (m : Man) (s : St) (w : World) (h : Hid (IsS w ⟨Z, R, M, H, v, p⟩ o m s)) (hok : Ok m s) (hN : s.d.size = (n : Int)) :
    Calls Tryz.prog 19 #[.pointer (some ⟨Z, 0, none⟩)] w fun e w' => ∃ A c, e = .returned (.slice A n c) ∧ Kd.C Kd.bool w' A n (used m s) ∧ n ≤ c ∧ Below w.heap.size w w' := by
  have hl : (used m s).length = n := by have := used_len hok; omega
  refine (Taken_c Z R M H v p o m s w h hok.ms hok.mr (Lib.hid hok.rt) hok.rf hok.pl).mono ?_
  rintro e w' ⟨u, rfl, hu, hd⟩
  obtain ⟨A, c, rfl, hc, hC⟩ := Kd.R_reads hu
  have eu : taken ((marks m s.d.size).getD []) s = used m s := rfl
  rw [eu, hl] at hc hC
  rw [eu, hl]
  exact ⟨A, c, rfl, hC, hc, hd⟩
theorem run_man {W w w1 : World} {q q1 : Pl} {o o1 : Mni.Loc} {m m1 : Man} {s s1 : St} (h : Run W w q o m s) (k : Stp w q w1 q1) (h' : IsS w1 q1 o1 m1 s1) : Run W w1 q1 o1 m1 s1 := h.step k h'
set_option maxRecDepth 100000 in
theorem again_out (A0 : Option Addr) (n c0 : Nat) (W : World) (h8 : 8 < n) :
    Calls Tryz.prog 3 #[.slice A0 n c0] W fun e w' => e = .returned (.bool true) ∧ Below W.heap.size W w' := by
  have c0_ : decide ((n : Int) > 8) = true := decide_eq_true (by omega)
  have c1_ : decide (n > 8) = true := decide_eq_true h8
  have c2_ : decide ((8 : Int) < (n : Int)) = true := decide_eq_true (by omega)
  have c3_ : decide (8 < n) = true := decide_eq_true h8
  clear h8
  go_enter Tryz.func3, Tryz.ntmps3
  go_wp2_with fail
  refine (awake_c W).mono ?_
  rintro e w1 ⟨rfl, hd⟩
  have HB1 := Lib.hid hd
  clear hd
  go_wp2_with fail
  refine (awake_c w1).mono ?_
  rintro e w2 ⟨rfl, hd⟩
  have HB2 := below_to HB1 (Nat.le_refl _) hd
  clear hd HB1
  go_wp2_with fail
  go_ret
  exact ⟨rfl, HB2.out⟩
set_option maxHeartbeats 8000000 in
set_option maxRecDepth 100000 in
theorem again_in (A0 : Option Addr) (n c0 : Nat) (texts : List ByteArray) (W : World) (h8 : n ≤ 8) (hn : texts.length = n) (HTx : Hid (Kd.C Kd.string W A0 n texts)) :
    Calls Tryz.prog 3 #[.slice A0 n c0] W fun e w' => e = .returned (.bool true) ∧ Below W.heap.size W w' := by
  have c0_ : decide ((n : Int) > 8) = false := decide_eq_false (by omega)
  have c1_ : decide (n > 8) = false := decide_eq_false (by omega)
  have c2_ : decide ((8 : Int) < (n : Int)) = false := decide_eq_false (by omega)
  have c3_ : decide (8 < n) = false := decide_eq_false (by omega)
  have HN := Lib.hid hn
  clear hn
  go_enter Tryz.func3, Tryz.ntmps3
  go_wp2_with fail
  refine (awake_c W).mono ?_
  rintro e w1 ⟨rfl, hd⟩
  have HB1 := Lib.hid hd
  clear hd
  go_wp2_with fail
  clear c0_ c1_ c2_ c3_
  refine (Dk.new_c w1 400 (by decide) (by decide)).mono ?_
  rintro e w3 ⟨R, M, hR, hM, rfl, hd, hi⟩
  have H3 := Lib.hid (show IsD w3 R M (.slice none 0 0) (d0 400) from hi)
  have HRM := Lib.hid (And.intro (Nat.le_trans HB1.out.size hR) (Nat.le_trans HB1.out.size hM))
  have HB3 := below_to HB1 (Nat.le_refl _) hd
  clear hR hM hd hi HB1
  go_wp2_with fail
  refine (Format_new w3 R M _ 400 H3 (by decide) (by decide)).mono ?_
  rintro e w4 ⟨Z, H, hZ, hH, rfl, hi, hm4⟩
  have HU4 := Lib.hid (Run.new HB3.out HRM.out.1 HRM.out.2 hZ hH hm4 hi)
  clear hZ hH hi hm4 H3 HB3 HRM
  go_wp2_with fail
  refine (code_nil w4).mono ?_
  rintro e w5 ⟨rfl, hd⟩
  have HU5 := Lib.hid (HU4.out.on hd)
  clear hd HU4
  go_wp2_with fail
  refine (code_nil w5).mono ?_
  rintro e w6 ⟨rfl, hd⟩
  have HU6 := Lib.hid (HU5.out.on hd)
  clear hd HU5
  go_wp2_with fail
  have HR0 : Hid (Ra W w6 ⟨Z, R, M, H, .slice none 0 0, .slice none 0 0⟩ (sF 400) (.slice none 0 0) []) := Lib.hid ⟨HU6.out, Kd.R_nil _ _ _ _ _, fun b hb => by cases hb⟩
  clear HU6
  go_loopg [7, 8] n (fun kq v7 v8 wr => ∃ (j : Nat) (v p : Value) (s : St) (c : Nat) (rs : List Rf), v8 = .int .i64 (j : Int) ∧ kq + j = n ∧ Hid (PA 400 c j s rs (texts.take j)) ∧ Hid (Ra W wr ⟨Z, R, M, H, v, p⟩ s v7 rs))
  case atStart => exact ⟨0, _, _, sF 400, 3, [], rfl, by omega, Lib.hid (PA.start 400), HR0⟩
  case round =>
    clear HR0
    obtain ⟨j, v, p, s, c, rs, rfl, hk, HPA, HRa⟩ := hrel
    cases gk with
    | zero =>
      have hj : j = n := by omega
      have hj8 : j ≤ 8 := by omega
      have d1 : decide ((j : Int) < (n : Int)) = false := decide_eq_false (by omega)
      have d1b : decide (j < n) = false := decide_eq_false (by omega)
      have hjl : rs.length = n := by rw [HPA.out.rl]; exact hj
      have hts : texts.take j = texts := by rw [hj, ← HN.out, List.take_length]
      have hpa := HPA.out
      rw [hts] at hpa
      have HP := Lib.hid hpa
      have hc3 := Chn.le hpa.chn
      have hcb := hpa.c1
      have hc4 : c ≤ 260 := by omega
      obtain ⟨Ap, cp, e7⟩ := Kd.R_slice HRa.out.pt
      rw [hjl] at e7
      obtain rfl : u7 = .slice Ap n cp := e7
      have hnc := (Kd.R_reads' HRa.out.pt).2.1
      have hC := (Kd.R_reads' HRa.out.pt).2.2
      rw [hjl] at hC
      have HRl := Lib.hid hjl
      clear hk hts hpa HPA
      go_wp2_with fail
      refine (with_c Ap n cp rs wr hjl hnc (by omega) hC).mono ?_
      rintro e w1 ⟨o1, rfl, hO, hd⟩
      have HR1 := Lib.hid (HRa.out.on hd)
      have HA1 : Hid (ManOut w1 ⟨Z, R, M, H, v, p⟩ o1 (withM rs)) := Lib.hid (fun w2 h2 _ => (hO.step (fun i hi hl => h2 i hl (fun f => by have := HRa.out.run.is.lt i f; omega))).at_)
      clear hO hd HRa hC hnc hj hjl
      have hrt := right_with (N := 400) HP.out.chn (by omega) (by decide) (by decide) (by rw [HRl.out]; omega)
      have hlim := lim_right hrt HP.out.f2
      have hfit := hlim.fits
      have hls := lay_size (by rw [HRl.out]; omega) hfit
      have hlp := lay_pos (withM rs)
      have hrd := read_lay hrt HP.out.f2
      obtain ⟨tM, htM⟩ : ∃ tM, layM (withM rs) = tM := ⟨_, rfl⟩
      rw [htM] at hls hlp hrd
      obtain ⟨n1, hn1⟩ : ∃ n1, (tM.size + 63) / 64 = n1 := ⟨_, rfl⟩
      have hpg := Blb.pages_of tM hlp (by omega)
      rw [hn1] at hpg
      have hxl := used_size s 400 HP.out.size
      have hfc := find_c (used emptyM s) c n1 (by omega) (by omega) (fun i hi => HP.out.usd i (by rw [hxl] at hi; exact hi))
      have hz := Slt.sum_lt tM
      have HTm := Lib.hid htM
      go_wp2_with fail
      refine (Switch_m Z R M H v p oE emptyM s o1 (withM rs) tM n1 (c : Int) w1 (Lib.hid HR1.out.run.is) (HP.out.ok (by decide) (by decide) (by omega)) (by rw [HP.out.gen]; decide) (by rw [HP.out.gen]; decide) rfl (by show rs.length ≤ 1000000; rw [HRl.out]; omega) (by show (upTo rs.length).length ≤ 1000000; rw [upTo_len, HRl.out]; omega) HA1 (Lib.hid (by rw [HP.out.size]; exact hrt)) (Lib.hid hfit) HTm (Lib.hid hpg) (by omega) (by omega) (fun x hx => by
        rw [HP.out.pt] at hx
        have h1 := Chn.lt HP.out.chn hx
        refine sameR_no.2 (fun e => ?_)
        rw [e] at h1
        have h2 : (c : Int) < (c : Int) := h1.2
        omega) (Lib.hid hfc) (by omega) (by rw [HP.out.size]; omega) (Lib.hid HP.out.down) (Lib.hid HP.out.budget) (by have := HP.out.soft; omega)).mono ?_
      rintro e w2 ⟨rfl, o2, hi, hs⟩
      have hu2 := run_man HR1.out.run hs hi
      have hp2 := row_out HR1.out.pt (fun b hb => (HR1.out.pn b hb).1) hs
      have HU2 := Lib.hid hu2
      have HP2 := Lib.hid hp2.1
      have hbe := best_sw HP.out tM n1 (by omega) (by omega)
      have htn := (Txt.new s.d tM n1 c (by omega) (by rw [HP.out.size]; omega) hlp (by omega) hn1).sw (sl := ⟨s.gen + 1, (c : Int), (tM.size : Int), AdM.sum tM⟩) (by show 0 ≤ s.gen + 1; rw [HP.out.gen]; decide)
      have hall : ∀ (i : Nat) (r : Rf) (t : ByteArray), rs[i]? = some r → texts[i]? = some t → ∃ k, Txt (swM s (c : Int) tM n1).d r t k := fun i r t hr ht => by
        obtain ⟨k, k1, k2, _⟩ := HP.out.txt i r t hr ht
        exact ⟨k, (k1.put k2).sw (by show 0 ≤ s.gen + 1; rw [HP.out.gen]; decide)⟩
      have hd400 : (swM s (c : Int) tM n1).d.size = 400 := HP.out.size
      have hddn : (swM s (c : Int) tM n1).d.down = false := HP.out.down
      have hgen : (swM s (c : Int) tM n1).gen = 2 := by show s.gen + 1 = 2; rw [HP.out.gen]; rfl
      have hsoft : (swM s (c : Int) tM n1).d.soft = [] := rfl
      have hown : (swM s (c : Int) tM n1).own = ⟨(c : Int), (tM.size : Int), AdM.sum tM⟩ := rfl
      have hput : (swM s (c : Int) tM n1).put = [] := rfl
      have hheld : (swM s (c : Int) tM n1).held = [] := HP.out.held
      obtain ⟨s2, hs2⟩ : ∃ s2, swM s (c : Int) tM n1 = s2 := ⟨_, rfl⟩
      rw [hs2] at hbe hall hd400 hddn hgen hsoft hown hput hheld
      have htn2 : Txt s2.d ⟨(c : Int), (tM.size : Int), AdM.sum tM⟩ tM n1 := by rw [← hs2]; exact htn
      have hU2' := HU2.out
      rw [hs2] at hU2'
      have HU2b := Lib.hid hU2'
      have HAll := Lib.hid hall
      have HRd := Lib.hid hrd
      have HTn := Lib.hid htn2
      have HBe := Lib.hid hbe
      have HRt := Lib.hid hrt
      clear hi hs hu2 hp2 hU2' HU2 hbe htn htn2 hall hs2 hrd hfc hxl hz HTm hfit hlim HR1 HA1 hrt
      go_wp2_with fail
      refine (code_nil w2).mono ?_
      rintro e w3 ⟨rfl, hd⟩
      have HU3 := Lib.hid (HU2b.out.on hd)
      have HP3 := Lib.hid (Kd.R_below HP2.out hd)
      clear hd HU2b HP2
      go_wp2_with fail
      refine (Open_ok w3 R M (.slice none 0 0) s2.d 2 (c : Int) (tM.size : Int) (AdM.sum tM) tM (withM rs) n1 (Lib.hid HU3.out.is.dsk) (by rw [hd400]; decide) (by rw [hd400]; decide) (may_of hddn (by decide) (by rw [hd400]; decide)) (may_of hddn (by decide) (by rw [hd400]; decide)) HBe (by decide) (Lib.hid hddn) (by rw [hsoft]; exact Nat.zero_le _) (Lib.hid hpg) (by omega) (by omega) (by rw [hd400]; omega) (Lib.hid HTn.out.str) rfl (by omega) (Lib.hid (by rw [hd400]; exact HRd.out))).mono ?_
      rintro e w4 ⟨Z2, H2, o3, hZ2, hH2, rfl, hx, hd⟩
      have HU4 := Lib.hid (HU3.out.on hd)
      have HP4 := Lib.hid (Kd.R_below HP3.out hd)
      have HX4 := Lib.hid hx
      clear hx hd HU3 HP3 hZ2 hH2 HRd HTn HBe
      go_wp2_with fail
      refine (code_nil w4).mono ?_
      rintro e w5 ⟨rfl, hd⟩
      have HU5 := Lib.hid (HU4.out.on hd)
      have HX5 := Lib.hid (HX4.out.on hd)
      have HP5 := Lib.hid (Kd.R_below HP4.out hd)
      clear hd HU4 HP4 HX4
      go_wp2_with fail
      refine (Gen_c Z2 R M H2 _ _ o3 (withM rs) _ w5 HX5).mono ?_
      rintro e w6 ⟨rfl, hd⟩
      have HU6 := Lib.hid (HU5.out.on hd)
      have HX6 := Lib.hid (HX5.out.on hd)
      have HP6 := Lib.hid (Kd.R_below HP5.out hd)
      have eg : (sO s2.d ⟨2, (c : Int), (tM.size : Int), AdM.sum tM⟩).gen = 2 := rfl
      rw [eg]
      clear hd HU5 HP5 HX5 eg
      go_wp2_with fail
      refine (Gen_c Z R M H _ _ o2 (withM rs) s2 w6 (Lib.hid HU6.out.is)).mono ?_
      rintro e w7 ⟨rfl, hd⟩
      have HU7 := Lib.hid (HU6.out.on hd)
      have HX7 := Lib.hid (HX6.out.on hd)
      have HP7 := Lib.hid (Kd.R_below HP6.out hd)
      rw [hgen]
      clear hd HU6 HP6 HX6
      go_wp2_with fail
      refine (Manifest_m Z2 R M H2 _ _ o3 (withM rs) _ w7 HX7 rfl (by show rs.length ≤ 1000000; rw [HRl.out]; omega) (by show (upTo rs.length).length ≤ 1000000; rw [upTo_len, HRl.out]; omega)).mono ?_
      rintro e w8 ⟨o4, rfl, ha4, hd⟩
      have HU8 := Lib.hid (HU7.out.on hd)
      have HX8 := Lib.hid (HX7.out.on hd)
      have HP8 := Lib.hid (Kd.R_below HP7.out hd)
      have HM8 := Lib.hid ha4
      clear hd HU7 HP7 HX7 ha4
      go_wp2_with fail
      refine (Manifest_m Z R M H _ _ o2 (withM rs) s2 w8 (Lib.hid HU8.out.is) rfl (by show rs.length ≤ 1000000; rw [HRl.out]; omega) (by show (upTo rs.length).length ≤ 1000000; rw [upTo_len, HRl.out]; omega)).mono ?_
      rintro e w10 ⟨o5, rfl, ha5, hd⟩
      have HU10 := Lib.hid (HU8.out.on hd)
      have HX10 := Lib.hid (HX8.out.on hd)
      have HP10 := Lib.hid (Kd.R_below HP8.out hd)
      have HM10 := Lib.hid (HM8.out.on hd)
      have HN10 := Lib.hid ha5
      clear hd HU8 HP8 HX8 HM8 ha5
      go_wp2_with fail
      refine (sameM_c o4 o5 (withM rs) w10 HM10.out HN10.out rfl (by show rs.length ≤ 1000000; rw [HRl.out]; omega) (by show (upTo rs.length).length ≤ 1000000; rw [upTo_len, HRl.out]; omega)).mono ?_
      rintro e w11 ⟨rfl, hd⟩
      have HU11 := Lib.hid (HU10.out.on hd)
      have HX11 := Lib.hid (HX10.out.on hd)
      have HP11 := Lib.hid (Kd.R_below HP10.out hd)
      clear hd HU10 HP10 HX10 HM10 HN10
      have hC11 := (Kd.R_reads' HP11.out).2.2
      rw [HRl.out] at hC11
      go_wp2_with fail
      refine (all_c Z2 R M H2 _ _ o3 (withM rs) (sO s2.d ⟨2, (c : Int), (tM.size : Int), AdM.sum tM⟩) Ap A0 n cp c0 rs texts w11 HX11 (Lib.hid hddn) (by show s2.d.size ≤ 2048; rw [hd400]; decide) (by show s2.d.soft.length ≤ 9000; rw [hsoft]; exact Nat.zero_le _) HRl.out HN.out (by omega) (Lib.hid hC11) (Lib.hid (Kd.C_below HTx.out HU11.out.bel)) HAll.out).mono ?_
      rintro e w12 ⟨rfl, hd⟩
      have HU12 := Lib.hid (HU11.out.on hd)
      have HX12 := Lib.hid (HX11.out.on hd)
      clear hd HU11 HP11 HX11 hC11 HAll
      have hok2 : Ok (withM rs) s2 := ⟨Nat.zero_le _, by show rs.length ≤ 1000000; rw [HRl.out]; omega, by rw [hd400]; exact HRt.out, fun r hr => by
        have hk : keys s2 = [] := by unfold keys; rw [hheld]; rfl
        rw [hk, hput, hown, List.append_nil, List.mem_singleton] at hr
        subst hr
        exact ⟨by show (0 : Int) ≤ (c : Int); omega, by show (c : Int) ≤ 1000000; omega⟩, by rw [hput]; exact Nat.zero_le _⟩
      have hok3 : Ok (withM rs) (sO s2.d ⟨2, (c : Int), (tM.size : Int), AdM.sum tM⟩) := ⟨Nat.zero_le _, by show rs.length ≤ 1000000; rw [HRl.out]; omega, by show rightM (withM rs) s2.d.size = true; rw [hd400]; exact HRt.out, fun r hr => by
        have hr : r ∈ [(⟨(c : Int), (tM.size : Int), AdM.sum tM⟩ : Rf)] := hr
        rw [List.mem_singleton] at hr
        subst hr
        exact ⟨by show (0 : Int) ≤ (c : Int); omega, by show (c : Int) ≤ 1000000; omega⟩, Nat.zero_le _⟩
      have hus : used (withM rs) (sO s2.d ⟨2, (c : Int), (tM.size : Int), AdM.sum tM⟩) = used (withM rs) s2 := by
        unfold used taken
        have hk : keys s2 = [] := by unfold keys; rw [hheld]; rfl
        rw [hk, hput, hown]
        rfl
      have hlen2 := used_len hok2
      rw [hd400] at hlen2
      go_wp2_with fail
      refine (taken_m 400 Z R M H _ _ o2 (withM rs) s2 w12 (Lib.hid HU12.out.is) hok2 (by rw [hd400]; rfl)).mono ?_
      rintro e w13 ⟨A13, c13, rfl, hC13, _, hd⟩
      have HU13 := Lib.hid (HU12.out.on hd)
      have HX13 := Lib.hid (HX12.out.on hd)
      have HC13 := Lib.hid hC13
      clear hd HU12 HX12 hC13
      go_wp2_with fail
      refine (taken_m 400 Z2 R M H2 _ _ o3 (withM rs) (sO s2.d ⟨2, (c : Int), (tM.size : Int), AdM.sum tM⟩) w13 HX13 hok3 (by show s2.d.size = _; rw [hd400]; rfl)).mono ?_
      rintro e w9 ⟨A14, c14, rfl, hC14, _, hd⟩
      have HU9 := Lib.hid (HU13.out.on hd)
      have hW := Kd.C_below HC13.out hd
      rw [hus] at hC14
      obtain ⟨xs, hxs⟩ : ∃ xs, used (withM rs) s2 = xs := ⟨_, rfl⟩
      rw [hxs] at hC14 hW hlen2
      have HXl := Lib.hid (show xs.length = 400 by omega)
      have HG9 := Lib.hid hW
      have HW9 := Lib.hid hC14
      clear hd hW hC14 hxs hus hok2 hok3 HU13 HX13 HC13 hlen2 hpg hls hlp hn1
      go_wp2_with fail
      go_loopg [15] 400 (fun kq vi wr => ∃ (k : Nat), vi = .int .i64 (k : Int) ∧ kq + k = 400 ∧ Hid (Below w9.heap.size w9 wr))
      case atStart => exact ⟨0, rfl, by omega, Lib.hid (Below.refl _ _)⟩
      case round =>
        obtain ⟨k, rfl, hk, HBr⟩ := hrel
        cases gk with
        | zero =>
          have hkN : k = 400 := by omega
          subst hkN
          clear hk
          go_wp2_with fail
          go_ret
          refine ⟨?_, HU9.out.bel.trans (HBr.out.mono HU9.out.bel.size)⟩
          first | rfl | simp
        | succ k1 =>
          have hkN : k < 400 := by omega
          have d1 : decide ((k : Int) < 400) = true := decide_eq_true (by omega)
          have d1b : decide (k < 400) = true := decide_eq_true hkN
          have p1 : (0 ≤ (k : Int)) = True := eq_true (by omega)
          have p2 : ((k : Int) < 400) = True := eq_true (by omega)
          have q5 : IntKind.i64.wrap ((k : Int) + 1) = (k : Int) + 1 := IntWalk.i64_in _ (by omega)
          obtain ⟨b, hb⟩ : ∃ b, xs[k]? = some b := ⟨xs[k]'(by rw [HXl.out]; exact hkN), List.getElem?_eq_getElem _⟩
          obtain ⟨ag, eg, hg0⟩ := at_B (Kd.C_below HG9.out HBr.out) hb
          obtain ⟨aw, ew, hw0⟩ := at_B (Kd.C_below HW9.out HBr.out) hb
          cases eg
          cases ew
          clear hb
          go_upto_region 26 with fail
          have hg1 : (World.drew wr).cell? (ag.add k) = some (.bool b) := hg0
          have hw1 : (World.drew wr).cell? (aw.add k) = some (.bool b) := hw0
          have t4 : ((400 : Int) != 400) = false := by decide
          have tb : (b != b) = false := by cases b <;> rfl
          have tb2 : (b == b) = true := by cases b <;> rfl
          refine start_ (n := 16) (S := fun w' => w'.cell? (ag.add k) = some (.bool b) ∧ w'.cell? (aw.add k) = some (.bool b)) (ds := []) #[false, false, false, false, false, false, false, false, false, false, false, false, false, false, false, false] (by kernel_rfl) rfl rfl ⟨hg1, hw1⟩ (fun hHeld => ?_)
          refine pure_ (i := 0) (N := some 123) (v := ?_) (a' := ?_) #[true, false, false, false, false, false, false, false, false, false, false, false, false, false, false, false] rfl rfl (by kernel_rfl) (fun _ _ _ h => h) (Or.inl ⟨by rfl, ?_⟩) ?_ ?_
          rotate_left
          · intro w'
            go_simp
            with_reducible rfl
          rotate_left
          · simp only [Act.put, List.setIfInBounds_toArray, List.set_cons_zero, List.set_cons_succ, i64_w, i32_w]
            rfl
          refine pure_ (i := 1) (N := some 124) (v := ?_) (a' := ?_) #[true, true, false, false, false, false, false, false, false, false, false, false, false, false, false, false] rfl rfl (by kernel_rfl) (fun _ _ _ h => h) (Or.inl ⟨by rfl, ?_⟩) ?_ ?_
          rotate_left
          · intro w'
            go_simp
            with_reducible rfl
          rotate_left
          · simp only [Act.put, List.setIfInBounds_toArray, List.set_cons_zero, List.set_cons_succ, i64_w, i32_w]
            rfl
          refine pure_ (i := 2) (N := some 125) (v := ?_) (a' := ?_) #[true, true, true, false, false, false, false, false, false, false, false, false, false, false, false, false] rfl rfl (by kernel_rfl) (fun _ _ _ h => h) (Or.inl ⟨by rfl, ?_⟩) ?_ ?_
          rotate_left
          · intro w'
            go_simp
            with_reducible rfl
          rotate_left
          · simp only [Act.put, List.setIfInBounds_toArray, List.set_cons_zero, List.set_cons_succ, i64_w, i32_w]
            rfl
          refine pure_ (i := 3) (N := some 126) (v := ?_) (a' := ?_) #[true, true, true, true, false, false, false, false, false, false, false, false, false, false, false, false] rfl rfl (by kernel_rfl) (fun _ _ _ h => h) (Or.inl ⟨by rfl, ?_⟩) ?_ ?_
          rotate_left
          · intro w'
            go_simp
            with_reducible rfl
          rotate_left
          · simp only [Act.put, List.setIfInBounds_toArray, List.set_cons_zero, List.set_cons_succ, i64_w, i32_w]
            rfl
          refine pure_ (i := 4) (N := some 127) (v := ?_) (a' := ?_) #[true, true, true, true, true, false, false, false, false, false, false, false, false, false, false, false] rfl rfl (by kernel_rfl) (fun _ _ _ h => h) (Or.inl ⟨by rfl, ?_⟩) ?_ ?_
          rotate_left
          · intro w'
            go_simp
            with_reducible rfl
          rotate_left
          · simp only [Act.put, List.setIfInBounds_toArray, List.set_cons_zero, List.set_cons_succ, i64_w, i32_w]
            rfl
          refine pure_ (i := 5) (N := some 128) (v := ?_) (a' := ?_) #[true, true, true, true, true, true, false, false, false, false, false, false, false, false, false, false] rfl rfl (by kernel_rfl) (fun _ _ _ h => h) (Or.inl ⟨by rfl, ?_⟩) ?_ ?_
          rotate_left
          · intro w'
            go_simp
            with_reducible rfl
          rotate_left
          · simp only [Act.put, List.setIfInBounds_toArray, List.set_cons_zero, List.set_cons_succ, i64_w, i32_w]
            rfl
          refine pure_ (i := 6) (N := some 129) (v := ?_) (a' := ?_) #[true, true, true, true, true, true, true, false, false, false, false, false, false, false, false, false] rfl rfl (by kernel_rfl) (fun _ _ _ h => h) (Or.inl ⟨by rfl, ?_⟩) ?_ ?_
          rotate_left
          · intro w'
            go_simp
            with_reducible rfl
          rotate_left
          · simp only [Act.put, List.setIfInBounds_toArray, List.set_cons_zero, List.set_cons_succ, i64_w, i32_w]
            rfl
          refine pure_ (i := 7) (N := some 130) (v := ?_) (a' := ?_) #[true, true, true, true, true, true, true, true, false, false, false, false, false, false, false, false] rfl rfl (by kernel_rfl) (fun _ _ _ h => h) (Or.inl ⟨by rfl, ?_⟩) ?_ ?_
          rotate_left
          · intro w'
            go_simp
            with_reducible rfl
          rotate_left
          · simp only [Act.put, List.setIfInBounds_toArray, List.set_cons_zero, List.set_cons_succ, i64_w, i32_w]
            rfl
          refine pure_ (i := 8) (N := some 131) (v := ?_) (a' := ?_) #[true, true, true, true, true, true, true, true, true, false, false, false, false, false, false, false] rfl rfl (by kernel_rfl) (fun _ _ _ h => h) (Or.inl ⟨by rfl, ?_⟩) ?_ ?_
          rotate_left
          · intro w'
            go_simp
            with_reducible rfl
          rotate_left
          · simp only [Act.put, List.setIfInBounds_toArray, List.set_cons_zero, List.set_cons_succ, i64_w, i32_w]
            rfl
          refine pure_ (i := 10) (N := some 133) (v := ?_) (a' := ?_) #[true, true, true, true, true, true, true, true, true, false, true, false, false, false, false, false] rfl rfl (by kernel_rfl) (fun _ _ _ h => h) (Or.inl ⟨by rfl, ?_⟩) ?_ ?_
          rotate_left
          · intro w'
            go_simp
            with_reducible rfl
          rotate_left
          · simp only [Act.put, List.setIfInBounds_toArray, List.set_cons_zero, List.set_cons_succ, i64_w, i32_w]
            rfl
          refine pure_ (i := 11) (N := some 134) (v := ?_) (a' := ?_) #[true, true, true, true, true, true, true, true, true, false, true, true, false, false, false, false] rfl rfl (by kernel_rfl) (fun _ _ _ h => h) (Or.inl ⟨by rfl, ?_⟩) ?_ ?_
          rotate_left
          · intro w'
            go_simp
            with_reducible rfl
          rotate_left
          · simp only [Act.put, List.setIfInBounds_toArray, List.set_cons_zero, List.set_cons_succ, i64_w, i32_w]
            rfl
          refine pure_ (i := 12) (N := some 135) (v := ?_) (a' := ?_) #[true, true, true, true, true, true, true, true, true, false, true, true, true, false, false, false] rfl rfl (by kernel_rfl) (fun _ _ _ h => h) (Or.inl ⟨by rfl, ?_⟩) ?_ ?_
          rotate_left
          · intro w'
            go_simp
            with_reducible rfl
          rotate_left
          · simp only [Act.put, List.setIfInBounds_toArray, List.set_cons_zero, List.set_cons_succ, i64_w, i32_w]
            rfl
          refine take_ (i := 9) (N := some 132) (v := ?_) (a' := ?_) #[true, true, true, true, true, true, true, true, true, true, true, true, true, false, false, false] rfl rfl (by kernel_rfl) (fun _ _ _ h => h) (Or.inl ⟨by rfl, ?_⟩) hHeld ?_ ?_
          rotate_left
          · rintro w' ⟨s0, s1⟩
            go_simp
            with_reducible rfl
          rotate_left
          · simp only [Act.put, List.setIfInBounds_toArray, List.set_cons_zero, List.set_cons_succ, i64_w, i32_w]
            rfl
          refine take_ (i := 13) (N := some 136) (v := ?_) (a' := ?_) #[true, true, true, true, true, true, true, true, true, true, true, true, true, true, false, false] rfl rfl (by kernel_rfl) (fun _ _ _ h => h) (Or.inl ⟨by rfl, ?_⟩) hHeld ?_ ?_
          rotate_left
          · rintro w' ⟨s0, s1⟩
            go_simp
            with_reducible rfl
          rotate_left
          · simp only [Act.put, List.setIfInBounds_toArray, List.set_cons_zero, List.set_cons_succ, i64_w, i32_w]
            rfl
          refine pure_ (i := 14) (N := some 137) (v := ?_) (a' := ?_) #[true, true, true, true, true, true, true, true, true, true, true, true, true, true, true, false] rfl rfl (by kernel_rfl) (fun _ _ _ h => h) (Or.inl ⟨by rfl, ?_⟩) ?_ ?_
          rotate_left
          · intro w'
            go_simp
            with_reducible rfl
          rotate_left
          · simp only [Act.put, List.setIfInBounds_toArray, List.set_cons_zero, List.set_cons_succ, i64_w, i32_w]
            rfl
          refine pure_ (i := 15) (N := some 138) (v := ?_) (a' := ?_) #[true, true, true, true, true, true, true, true, true, true, true, true, true, true, true, true] rfl rfl (by kernel_rfl) (fun _ _ _ h => h) (Or.inl ⟨by rfl, ?_⟩) ?_ ?_
          rotate_left
          · intro w'
            go_simp
            with_reducible rfl
          rotate_left
          · simp only [Act.put, List.setIfInBounds_toArray, List.set_cons_zero, List.set_cons_succ, i64_w, i32_w]
            rfl
          refine done_ (by kernel_rfl) ?_
          have HB2 := below_to HBr (Nat.le_refl _) (show Below wr.heap.size wr (World.drew wr) from (Below.refl _ _).drew)
          clear hHeld hg0 hw0 hg1 hw1 HBr
          generalize (World.drew wr) = wr1 at *
          go_wp2_with fail
          go_roundg k1
          case measure => exact Nat.lt_succ_self _
          case rel => exact ⟨k + 1, by simp, by omega, HB2⟩
    | succ k1 =>
      have hj : j < n := by omega
      have hjl : j < texts.length := by rw [HN.out]; exact hj
      have d1 : decide ((j : Int) < (n : Int)) = true := decide_eq_true (by omega)
      have d1b : decide (j < n) = true := decide_eq_true hj
      have p1 : (0 ≤ (j : Int)) = True := eq_true (by omega)
      have p2 : ((j : Int) < (n : Int)) = True := eq_true (by omega)
      have q5 : IntKind.i64.wrap ((j : Int) + 1) = (j : Int) + 1 := IntWalk.i64_in _ (by omega)
      obtain ⟨t, ht⟩ : ∃ t, texts[j] = t := ⟨_, rfl⟩
      have hst : texts[j]? = some t := by rw [List.getElem?_eq_getElem hjl, ht]
      have htake : texts.take (j + 1) = texts.take j ++ [t] := by rw [← List.take_append_getElem hjl, ht]
      obtain ⟨at_, eat, hc_⟩ := at_S HTx.out hst
      have HC_ := Lib.hid hc_
      have HTk := Lib.hid htake
      obtain rfl : A0 = some at_ := eat
      have hcell := fun {w : World} (k : Below W.heap.size W w) => (k.cell (World.block_lt_of_cell? W _ HC_.out)).trans HC_.out
      have hc3 := Chn.le HPA.out.chn
      have hcb := HPA.out.c1
      clear hst ht htake hc_
      have xc := hcell HRa.out.run.bel
      by_cases hsm : t.size < 1
      · have g1 : decide ((t.size : Int) < 1) = true := decide_eq_true (by omega)
        have g1b : decide (t.size < 1) = true := decide_eq_true hsm
        go_wp2_with fail
        go_ret
        exact ⟨rfl, HRa.out.run.bel⟩
      have g1 : decide ((t.size : Int) < 1) = false := decide_eq_false (by omega)
      have g1b : decide (t.size < 1) = false := decide_eq_false hsm
      by_cases hbig : 2000 < t.size
      · have g2 : decide ((t.size : Int) > 2000) = true := decide_eq_true (by omega)
        have g2b : decide (t.size > 2000) = true := decide_eq_true hbig
        have g3 : decide ((2000 : Int) < (t.size : Int)) = true := decide_eq_true (by omega)
        have g3b : decide (2000 < t.size) = true := decide_eq_true hbig
        go_wp2_with fail
        go_ret
        exact ⟨rfl, HRa.out.run.bel⟩
      have g2 : decide ((t.size : Int) > 2000) = false := decide_eq_false (by omega)
      have g2b : decide (t.size > 2000) = false := decide_eq_false hbig
      have g3 : decide ((2000 : Int) < (t.size : Int)) = false := decide_eq_false (by omega)
      have g3b : decide (2000 < t.size) = false := decide_eq_false hbig
      obtain ⟨n1, hn1⟩ : ∃ n1, (t.size + 63) / 64 = n1 := ⟨_, rfl⟩
      have hpg := Blb.pages_of t (by omega) (by omega)
      rw [hn1] at hpg
      have hxl := used_size s 400 HPA.out.size
      have hfc := find_c (used emptyM s) c n1 (by omega) (by omega) (fun i hi => HPA.out.usd i (by rw [hxl] at hi; exact hi))
      go_wp2_with fail
      refine (Put_ok Z R M H v p oE emptyM s t n1 (c : Int) wr (Lib.hid HRa.out.run.is) (HPA.out.ok (by decide) (by decide) (by omega)) (Lib.hid hpg) (by omega) (by omega) (Lib.hid hfc) (by omega) (by rw [HPA.out.size]; omega) (Lib.hid HPA.out.down) (Lib.hid HPA.out.budget) (by have := HPA.out.soft; omega)).mono ?_
      rintro e w1 ⟨rfl, v1, p1, hi, hs⟩
      have HR1 := Lib.hid (HRa.out.step hs hi)
      have HPB := Lib.hid (HPA.out.more t n1 (by omega) (by omega) hn1 (by omega))
      obtain ⟨r, hr⟩ : ∃ r : Rf, r = ⟨(c : Int), (t.size : Int), AdM.sum t⟩ := ⟨_, rfl⟩
      have hPB := HPB.out
      rw [← hr, ← HTk.out] at hPB
      have HPC := Lib.hid hPB
      have hrl := HPA.out.rl
      rw [← hr]
      clear hi hs hr HRa HPB hPB xc hfc hxl g1 g1b g2 g2b g3 g3b
      go_upto_region 14 with (first | (refine wl_allocR rfl rfl ?_) | (refine wl_storeRn #[.int .i64 0, .int .i64 0, .int .u32 0] rfl r rfl _ _ rfl rfl rfl ?_))
      have hd2 : Below w1.heap.size w1 (w1.alloc (Obj.cells (ra r) 36 (0, 0))) := (Below.refl _ _).alloc (Nat.le_refl _) _
      have HK2 := Lib.hid (heap_alloc_last w1 (Obj.cells (ra r) 36 (0, 0)))
      have HR2 := Lib.hid (HR1.out.on hd2)
      obtain ⟨K, hK⟩ : ∃ K, w1.heap.size = K := ⟨_, rfl⟩
      rw [hK] at HK2
      simp only [hK]
      generalize (w1.alloc (Obj.cells (ra r) 36 (0, 0))) = w2 at *
      clear hK hd2 HR1
      go_wp2_with fail
      refine (code_nil w2).mono ?_
      rintro e w3 ⟨rfl, hd⟩
      have HR3 := Lib.hid (HR2.out.on hd)
      have HK3 := blk_to HK2 hd
      clear hd HR2 HK2
      go_wp2_with (first
        | (refine wl_loadR K r HK3.out rfl _ rfl rfl ?_)
        | (refine Kd.event_run rfl (exec_litR (a := r.f0) (b := r.f1) (c := r.f2) rfl rfl _) ?_
           have hd4 : Below w3.heap.size w3 (w3.alloc (Obj.cells #[.int .i64 r.f0, .int .i64 r.f1, .int .u32 r.f2] 36 (0, 0))) := (Below.refl _ _).alloc (Nat.le_refl _) _
           have HL4 := Lib.hid (heap_alloc_last w3 (Obj.cells #[.int .i64 r.f0, .int .i64 r.f1, .int .u32 r.f2] 36 (0, 0)))
           have HR4 := Lib.hid (HR3.out.on hd4)
           generalize (w3.alloc (Obj.cells #[.int .i64 r.f0, .int .i64 r.f1, .int .u32 r.f2] 36 (0, 0))) = w4 at *
           clear hd4)
        | (at_builtin
           refine Kd.R_append_rows rk (w0 := w4) 0 rfl (.tmp 73) (.tmp 75) 33 36 (.agg #[.int .i64 0, .int .i64 0, .int .u32 0]) 24 rfl Tryz.underlying33 infoR rfl (by decide) (by decide) u7 rs [r] _ _ _ (fun _ => True) (fun _ => False) rfl rfl HR4.out.pt (readsR _ _ r HL4.out) (fun y cs hy => by subst hy; exact k36_mkM _ _ _ _) (fun _ h => h.elim) (fun _ _ => trivial) (Below.refl _ _) (Nat.zero_le _) (show (rs.length + 1) * 24 ≤ 140737488355328 by omega) ?_
           intro v5 w5 ho hb hg5 hn5
           have HR5 := Lib.hid (HR4.out.push hg5 hn5 ho)
           clear ho hb hg5 hn5))
      go_roundg k1
      case measure => exact Nat.lt_succ_self _
      case rel => exact ⟨j + 1, v1, p1, putS s (c : Int) t n1, c + n1, rs ++ [r], by simp, by omega, HPC, HR5⟩
theorem again_walk (A0 : Option Addr) (n c0 : Nat) (texts : List ByteArray) (W : World) (hn : texts.length = n) (hc : n ≤ c0) (hT : Kd.C Kd.string W A0 n texts) (hg : Hid (Laid W)) :
    Calls Tryz.prog 3 #[.slice A0 n c0] W fun e w' => e = .returned (.bool true) ∧ Below W.heap.size W w' := by
  by_cases h : 8 < n
  · exact again_out A0 n c0 W h
  · exact again_in A0 n c0 texts W (by omega) hn (Lib.hid hT)
end Go.Proofs.YtaodgnladjafoaaGreatDoor.Sto
