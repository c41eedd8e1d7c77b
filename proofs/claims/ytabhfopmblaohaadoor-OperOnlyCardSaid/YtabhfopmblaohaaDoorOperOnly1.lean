/- OperOnly, the walk. -/
import Derived.Test.YtabhfopmblaohaaDoorOper7
set_option linter.unusedVariables false
set_option linter.unusedSimpArgs false
namespace Go.Proofs.YtabhfopmblaohaaDoor.Opr.RowOperOnly
open Go.RowKit Go.Proofs.YtabhfopmblaohaaDoorW.PrintWords Go.Proofs.YtabhfopmblaohaaDoorW.PrintLast Go.Proofs.YtabhfopmblaohaaDoorW.PrintMore Go.Proofs.YtabhfopmblaohaaDoor.CdM Go.Proofs.YtabhfopmblaohaaDoor.Md Go.Proofs.YtabhfopmblaohaaDoor.Opr
open Go.Proofs.YtabhfopmblaohaaDoor.Err (Laid IsErr code_nil code_c Chain at_some at_nil)
set_option maxHeartbeats 8000000 in
set_option maxRecDepth 100000 in
theorem walk (s : ByteArray) (W : World) (hs : s.size ≤ 140737488351232) (hg : Hid (Laid W)) : Calls Tryd.prog 6 #[.string s] W fun e w' => e = .returned (.bool true) ∧ Below W.heap.size W w' := by
  by_cases hl : 3000 < s.size
  · have g0 : decide ((s.size : Int) > 3000) = true := decide_eq_true (by omega)
    have g1 : decide (3000 < s.size) = true := decide_eq_true hl
    go_enter Tryd.func6, Tryd.ntmps6
    go_wp2_with fail
    refine (awake_c _).mono ?_
    rintro e w1 ⟨rfl, hd⟩
    have HX1 := Lib.hid hd
    clear hd
    go_wp2_with fail
    refine (awake_c _).mono ?_
    rintro e w2 ⟨rfl, hd⟩
    have HX2 := Lib.hid (HX1.out.trans (hd.mono HX1.out.size))
    clear hd
    go_wp2_with fail
    go_ret
    exact ⟨rfl, HX2.out⟩
  have g0 : decide ((s.size : Int) > 3000) = false := decide_eq_false (by omega)
  have g1 : decide (3000 < s.size) = false := decide_eq_false hl
  go_enter Tryd.func6, Tryd.ntmps6
  go_wp2_with fail
  refine (awake_c _).mono ?_
  rintro e w1 ⟨rfl, hd⟩
  have HX1 := Lib.hid hd
  clear hd
  go_wp2_with fail
  refine (readall_any s _ (by omega)).mono ?_
  rintro e w2 ⟨v, e0, rfl, hr, hd⟩
  have HX2 := Lib.hid (HX1.out.trans (hd.mono HX1.out.size))
  have HL2 := Lib.hid (hg.out.on HX2.out)
  clear hd HX1
  rcases hr with ⟨rfl, l, hR, hok, hlen, hsl⟩ | ⟨rfl, _, T, u, rfl, hie⟩
  · obtain ⟨A, c, rfl, hc, hC⟩ := Kd.R_reads hR
    have HC2 := Lib.hid hC
    have HOk := Lib.hid hok
    have HSl := Lib.hid hsl
    obtain ⟨n, hn⟩ : ∃ n, l.length = n := ⟨_, rfl⟩
    rw [hn] at hC hc hlen
    have HN := Lib.hid hn
    rw [hn] at HC2
    rw [hn]
    clear hR hC hok hsl hn
    go_wp2_with fail
    refine (code_nil _).mono ?_
    rintro e w3 ⟨rfl, hd⟩
    have HX3 := Lib.hid (HX2.out.trans (hd.mono HX2.out.size))
    have HC3 := Lib.hid (Kd.C_below HC2.out hd)
    clear hd HX2 HC2 HL2
    go_wp2_with fail
    refine (layall_c A n c l _ HN.out HC3 hlen hc).mono ?_
    rintro e w4 ⟨he, hd⟩
    obtain rfl : e = .returned (.tuple #[.string (layAll l), .nilIface]) := by
      rcases he with ⟨_, h⟩ | ⟨h, _⟩
      · exact h
      · exact absurd HOk.out h
    rw [← HSl.out]
    have HX4 := Lib.hid (HX3.out.trans (hd.mono HX3.out.size))
    clear hd he HX3 HC3
    go_wp2_with fail
    refine (code_nil _).mono ?_
    rintro e w5 ⟨rfl, hd⟩
    have HX5 := Lib.hid (HX4.out.trans (hd.mono HX4.out.size))
    have hss := sl_self s
    clear hd HX4
    go_wp2_with fail
    go_ret
    exact ⟨rfl, HX5.out⟩
  · rcases hie with ⟨_, hi⟩ | ⟨_, hi⟩
    · have HE2 := Lib.hid hi
      clear hi
      go_wp2_with fail
      refine (code_c _ 12 _ HE2 HL2).mono ?_
      rintro e w3 ⟨rfl, hd⟩
      have HX3 := Lib.hid (HX2.out.trans (hd.mono HX2.out.size))
      have HL3 := Lib.hid (HL2.out.on hd)
      have HE3 := Lib.hid (HE2.out.on hd)
      clear hd HX2 HL2 HE2
      go_wp2_with fail
      refine (code_c _ 12 _ HE3 HL3).mono ?_
      rintro e w4 ⟨rfl, hd⟩
      have HX4 := Lib.hid (HX3.out.trans (hd.mono HX3.out.size))
      clear hd HX3 HL3 HE3
      go_wp2_with fail
      go_ret
      exact ⟨rfl, HX4.out⟩
    · have HE2 := Lib.hid hi
      clear hi
      go_wp2_with fail
      refine (code_c _ 13 _ HE2 HL2).mono ?_
      rintro e w3 ⟨rfl, hd⟩
      have HX3 := Lib.hid (HX2.out.trans (hd.mono HX2.out.size))
      have HL3 := Lib.hid (HL2.out.on hd)
      have HE3 := Lib.hid (HE2.out.on hd)
      clear hd HX2 HL2 HE2
      go_wp2_with fail
      refine (code_c _ 13 _ HE3 HL3).mono ?_
      rintro e w4 ⟨rfl, hd⟩
      have HX4 := Lib.hid (HX3.out.trans (hd.mono HX3.out.size))
      have HL4 := Lib.hid (HL3.out.on hd)
      have HE4 := Lib.hid (HE3.out.on hd)
      clear hd HX3 HL3 HE3
      go_wp2_with fail
      refine (code_c _ 13 _ HE4 HL4).mono ?_
      rintro e w5 ⟨rfl, hd⟩
      have HX5 := Lib.hid (HX4.out.trans (hd.mono HX4.out.size))
      clear hd HX4
      go_wp2_with fail
      go_ret
      exact ⟨rfl, HX5.out⟩
end Go.Proofs.YtabhfopmblaohaaDoor.Opr.RowOperOnly
