/- CodeLeft, the walk. -/
import Derived.Test.YtnpndfcghfoofaaDoorCodeCalls
set_option linter.unusedVariables false
namespace Go.Proofs.YtnpndfcghfoofaaDoor.RowCodeLeft
open Go.RowKit Go.Proofs.YtnpndfcghfoofaaDoorW.PrintWords Go.Proofs.YtnpndfcghfoofaaDoorW.PrintLast Go.Proofs.YtnpndfcghfoofaaDoorW.PrintMore Go.Proofs.YtnpndfcghfoofaaDoor.CdM Go.Proofs.YtnpndfcghfoofaaDoor.Md Go.Proofs.YtnpndfcghfoofaaDoor.Rdr Go.Proofs.YtnpndfcghfoofaaDoor.PCodeBack
open Go.Proofs.YtnpndfcghfoofaaDoor.Err (Laid code_nil)
theorem awake_c (w : World) : Calls Tryd.prog 12 #[] w fun e w' => e = .returned (.bool true) ∧ Below w.heap.size w w' := by
  refine shalelaw04_awake.calls 11 true w ?_
  unfold shalelaw04_awake.f
  refine bnd (num_at 300 (by decide) 11 (Nat.le_refl _)) ?_
  have e : numS 300 = ⟨#[172, 2]⟩ := by
    have h : num 300 = [172, 2] := by rw [num_big (by omega), num_small (by omega)]
    unfold numS digs
    rw [h]
    rfl
  rw [e]
  decide +kernel
set_option maxHeartbeats 4000000 in
set_option maxRecDepth 100000 in
theorem walk (n : Int) (s more : ByteArray) (w : World) (hn : (Lit.int .i64 n).wf = true) (hs0 : s.size ≤ 140737488351232) (hm0 : more.size ≤ 140737488351232) (hg : Hid (Laid w)) :
    Calls Tryd.prog 5 #[.int .i64 n, .string s, .string more] w fun e w' => e = .returned (.bool true) ∧ Below w.heap.size w w' := by
  by_cases h1 : s.size ≤ 2000
  · by_cases h2 : more.size ≤ 2000
    · have c1 : decide ((s.size : Int) > 2000) = false := decide_eq_false (by omega)
      have c1' : decide (s.size > 2000) = false := decide_eq_false (by omega)
      have c2 : decide ((more.size : Int) > 2000) = false := decide_eq_false (by omega)
      have c2' : decide (more.size > 2000) = false := decide_eq_false (by omega)
      obtain ⟨x, hx⟩ : ∃ x : Nat, n % 4611686018427387904 = (x : Int) := ⟨(n % 4611686018427387904).toNat, by omega⟩
      have hxl : x ≤ 4611686018427387904 := by omega
      have b1 : Go.bits .and .i64 n 4611686018427387903 = (x : Int) := by rw [and62]; exact hx
      obtain ⟨a, ha⟩ : ∃ a, a = numS x ++ (numS s.size ++ s) := ⟨_, rfl⟩
      obtain ⟨b, hb⟩ : ∃ b, b = a ++ more := ⟨_, rfl⟩
      obtain ⟨k, hk⟩ : ∃ k, k = (numS x).size := ⟨_, rfl⟩
      obtain ⟨l, hl⟩ : ∃ l, l = (numS s.size).size := ⟨_, rfl⟩
      have hk9 := numS_nine hxl
      have hl9 := numS_nine (show s.size ≤ 4611686018427387904 by omega)
      have hkn : (num x).length = k := by rw [hk, numS_size]
      have hln : (num s.size).length = l := by rw [hl, numS_size]
      have hbs : b.size = k + (l + s.size) + more.size := by rw [hb, ha]; simp only [ByteArray.size_append]; omega
      rw [← hk] at hk9
      rw [← hl] at hl9
      obtain ⟨m, hm⟩ : ∃ m, m = l + s.size := ⟨_, rfl⟩
      rw [← hm] at hbs
      have hm9 : m ≤ 2009 := by omega
      have d1 : (numS s.size ++ s).size = m := by rw [ByteArray.size_append, ← hl, hm]
      have d2 : IntKind.i64.wrap ((m : Int) + (more.size : Int)) = (m : Int) + (more.size : Int) := IntWalk.i64_in _ (by omega)
      have HMm := Lib.hid hm
      have hst1 : Stands b 0 x := by
        have z := stands_mid ByteArray.empty (numS s.size ++ s ++ more) x
        have e : ByteArray.empty ++ numS x ++ (numS s.size ++ s ++ more) = b := by rw [hb, ha]; simp [ByteArray.append_assoc]
        rw [e] at z; exact z
      have hst2 : Stands b k s.size := by
        have z := stands_mid (numS x) (s ++ more) s.size
        have e : numS x ++ numS s.size ++ (s ++ more) = b := by rw [hb, ha]; simp [ByteArray.append_assoc]
        rw [e, ← hk] at z; exact z
      have hex : b.extract (k + l) (k + l + s.size) = s := by
        have e : b = (numS x ++ numS s.size) ++ s ++ more := by rw [hb, ha]; simp [ByteArray.append_assoc]
        rw [e]
        exact ext_mid _ _ _ _ (by simp only [ByteArray.size_append]; omega)
      have hsz1 : (numS x).size + (numS s.size ++ s).size ≤ 9223372036854775807 := by simp only [ByteArray.size_append]; omega
      have hsz2 : a.size + more.size ≤ 9223372036854775807 := by rw [ha]; simp only [ByteArray.size_append]; omega
      have HA := Lib.hid ha
      have HBb := Lib.hid hb
      have e1 : numS x ++ (numS s.size ++ s) = a := ha.symm
      have e2 : a ++ more = b := hb.symm
      have z1 : ((9223372036854775807 < (numS x).size + (numS s.size ++ s).size)) = False := eq_false (by omega)
      have z2 : ((9223372036854775807 < a.size + more.size)) = False := eq_false (by omega)
      have HST1 := Lib.hid hst1
      have HST2 := Lib.hid hst2
      have HEX := Lib.hid hex
      have HK := Lib.hid hk
      have HL := Lib.hid hl
      have HKN := Lib.hid hkn
      have HLN := Lib.hid hln
      have HX := Lib.hid hx
      have HBS := Lib.hid hbs
      clear ha hb hm hst1 hst2 hex hk hl hkn hln hx hn hs0 hm0 hbs
      have hw := Lib.hid (Below.refl w.heap.size w)
      go_enter Tryd.func5, Tryd.ntmps5
      go_wp2_with fail
      refine (awake_c w).mono ?_
      rintro e w1 ⟨rfl, hd⟩
      have HB1 := below_to hw (Nat.le_refl _) hd
      clear hd
      go_wp2_with fail
      refine (cnum_c x _ hxl).mono ?_
      rintro e w2 ⟨rfl, hd⟩
      have HB2 := below_to HB1 (Nat.le_refl _) hd
      clear hd
      go_wp2_with fail
      refine (cstr_c s _ (by omega)).mono ?_
      rintro e w3 ⟨rfl, hd⟩
      have HB3 := below_to HB2 (Nat.le_refl _) hd
      clear hd
      go_wp2_with fail
      refine (new_v b _).mono ?_
      rintro e w4 ⟨R, hR, rfl, HH4, hd⟩
      have hRw : w.heap.size ≤ R := Nat.le_trans HB3.out.size hR
      have HB4 := below_to HB3 (Nat.le_refl _) hd
      clear hd hR
      go_wp2_with fail
      refine (num_v R b 0 x 4611686018427387904 k _ HH4 HST1 (by have := HBS.out; have := HMm.out; omega) hxl (by omega) (Lib.hid (by have := HKN.out; omega))).mono ?_
      rintro e w5 ⟨rfl, hm, hh⟩
      have HB5 := mod_to HB4 (Nat.le_refl _) hRw hm
      have HH5 := Lib.hid hh
      clear hm hh HH4
      go_wp2_with fail
      refine (left_v R b k ((m : Int) + (more.size : Int)) _ HH5 (by have := HBS.out; have := HMm.out; omega) (by have := HBS.out; have := HMm.out; omega) (Lib.hid (by have := HBS.out; have := HMm.out; omega))).mono ?_
      rintro e w6 ⟨rfl, hhe, hd⟩
      have HB6 := below_to HB5 (Nat.le_refl _) hd
      have HH6 := bel_has HH5 hd
      clear hd hhe HH5
      go_wp2_with fail
      refine (str_v R b k s.size 2000 s (k + l + s.size) _ HH6 HST2 (by have := HBS.out; have := HMm.out; omega) (by omega) (by omega) (Lib.hid (by have := HLN.out; omega)) (by have := HBS.out; have := HMm.out; omega) (Lib.hid (by rw [HLN.out]; exact HEX.out))).mono ?_
      rintro e w7 ⟨rfl, hm, hh⟩
      have HB7 := mod_to HB6 (Nat.le_refl _) hRw hm
      have HH7 := Lib.hid hh
      clear hm hh HH6
      go_wp2_with fail
      refine (code_nil _).mono ?_
      rintro e w8 ⟨rfl, hd⟩
      have HB8 := below_to HB7 (Nat.le_refl _) hd
      have HH8 := bel_has HH7 hd
      clear hd HH7
      go_wp2_with fail
      refine (code_nil _).mono ?_
      rintro e w9 ⟨rfl, hd⟩
      have HB9 := below_to HB8 (Nat.le_refl _) hd
      have HH9 := bel_has HH8 hd
      clear hd HH8
      go_wp2_with fail
      refine (cstr_c s _ (by omega)).mono ?_
      rintro e w10 ⟨rfl, hd⟩
      have HB10 := below_to HB9 (Nat.le_refl _) hd
      have HH10 := bel_has HH9 hd
      clear hd HH9
      go_wp2_with fail
      refine (left_v R b (k + l + s.size) (more.size : Int) _ HH10 (by have := HBS.out; have := HMm.out; omega) (by have := HBS.out; have := HMm.out; omega) (Lib.hid (by have := HBS.out; have := HMm.out; omega))).mono ?_
      rintro e w11 ⟨rfl, hhe, hd⟩
      have HB11 := below_to HB10 (Nat.le_refl _) hd
      clear hd hhe
      go_wp2_with fail
      go_ret
      exact ⟨rfl, HB11.out⟩
    · have c1 : decide ((s.size : Int) > 2000) = false := decide_eq_false (by omega)
      have c1' : decide (s.size > 2000) = false := decide_eq_false (by omega)
      have c2 : decide ((more.size : Int) > 2000) = true := decide_eq_true (by omega)
      have c2' : decide (more.size > 2000) = true := decide_eq_true (by omega)
      have hw := Lib.hid (Below.refl w.heap.size w)
      go_enter Tryd.func5, Tryd.ntmps5
      go_wp2_with fail
      refine (awake_c w).mono ?_
      rintro e w1 ⟨rfl, hd⟩
      have HB1 := below_to hw (Nat.le_refl _) hd
      clear hd
      go_wp2_with fail
      refine (awake_c _).mono ?_
      rintro e w2 ⟨rfl, hd⟩
      have HB2 := below_to HB1 (Nat.le_refl _) hd
      clear hd
      go_wp2_with fail
      go_ret
      exact ⟨rfl, HB2.out⟩
  · have c1 : decide ((s.size : Int) > 2000) = true := decide_eq_true (by omega)
    have c1' : decide (s.size > 2000) = true := decide_eq_true (by omega)
    have hw := Lib.hid (Below.refl w.heap.size w)
    go_enter Tryd.func5, Tryd.ntmps5
    go_wp2_with fail
    refine (awake_c w).mono ?_
    rintro e w1 ⟨rfl, hd⟩
    have HB1 := below_to hw (Nat.le_refl _) hd
    clear hd
    go_wp2_with fail
    refine (awake_c _).mono ?_
    rintro e w2 ⟨rfl, hd⟩
    have HB2 := below_to HB1 (Nat.le_refl _) hd
    clear hd
    go_wp2_with fail
    go_ret
    exact ⟨rfl, HB2.out⟩
end Go.Proofs.YtnpndfcghfoofaaDoor.RowCodeLeft
