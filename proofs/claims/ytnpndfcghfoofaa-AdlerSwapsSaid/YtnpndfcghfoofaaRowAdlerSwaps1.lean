/- AdlerSwaps, the walk: the call returns true and leaves what there was as it was; for every text and place. -/
import Derived.Test.YtnpndfcghfoofaaRowAdlerOne1
import Derived.RegionTactic
import Derived.ChangeAlike
import Derived.Deep.QuietTactic
import Derived.BigQuiet
namespace Go.Proofs.Ytnpndfcghfoofaa.RowAdlerSwaps
open Go.RowKit Go.Proofs.Ytnpndfcghfoofaa.PAdlerOne Go.Proofs.YtnpndfcghfoofaaW.PrintWords Go.Proofs.YtnpndfcghfoofaaW.PrintLast Go.Proofs.YtnpndfcghfoofaaW.PrintMore Go.Proofs.Ytnpndfcghfoofaa.AdM Go.Proofs.Ytnpndfcghfoofaa.RowAdlerOne
theorem bytes_back2 (s : ByteArray) (B c q : Nat) (y z : Int) (W : World) (hq : q + 1 < s.size) (hcell : ∀ i, i < s.size → W.cell? ⟨B, i, none⟩ = some (.int .u8 (bt s i))) (n : Nat) :
    (convert 24 9 (.slice (some ⟨B, 0, none⟩) s.size c)).run Try.prog ((((W.setCell ⟨B, q, none⟩ (.int .u8 z)).setCell ⟨B, q + 1, none⟩ (.int .u8 y)).drew).drewN n) = .ok (.string (strOfNums (((bl s).set q z).set (q + 1) y))) ((((W.setCell ⟨B, q, none⟩ (.int .u8 z)).setCell ⟨B, q + 1, none⟩ (.int .u8 y)).drew).drewN n) := by
  refine run_convert_bytes_arg _ 24 5 Try.underlying24 Try.underlying5 B 0 s.size c _ (by rw [List.length_set, List.length_set, bl_length]) (fun i hi => ?_) 9 Try.underlying9
  rw [Nat.zero_add]
  show ((W.setCell ⟨B, q, none⟩ (.int .u8 z)).setCell ⟨B, q + 1, none⟩ (.int .u8 y)).cell? ⟨B, i, none⟩ = _
  by_cases e : i = q + 1
  · subst e
    have hx : (W.setCell ⟨B, q, none⟩ (.int .u8 z)).cell? ⟨B, q + 1, none⟩ = some (.int .u8 (bt s (q + 1 : Nat))) := by
      rw [World.cell?_setCell_other W _ _ _ (fun h => by injection h with _ h2 _; omega)]
      exact hcell _ hi
    rw [World.cell?_setCell_same _ _ _ hx]
    rw [List.getD_eq_getElem?_getD, List.getElem?_set_self (by rw [List.length_set, bl_length]; exact hi)]
    rfl
  · rw [World.cell?_setCell_other _ _ _ _ (fun h => e (by injection h with _ h2 _; exact h2.symm))]
    by_cases e2 : i = q
    · subst e2
      rw [World.cell?_setCell_same W _ _ (hcell i hi)]
      rw [List.getD_eq_getElem?_getD, List.getElem?_set_ne (by omega), List.getElem?_set_self (by rw [bl_length]; exact hi)]
      rfl
    · rw [World.cell?_setCell_other W _ _ _ (fun h => e2 (by injection h with _ h2 _; exact h2.symm)), hcell i hi]
      rw [List.getD_eq_getElem?_getD, List.getElem?_set_ne (by omega), List.getElem?_set_ne (by omega), ← List.getD_eq_getElem?_getD, bl_get s i hi]
theorem quiet_d {f : FuncId} {args : Array Value} {w : World} {n : Nat} {v : Value}
    (h : Calls Try.prog f args (w.drewN n) fun e w' => e = .returned v ∧ Drawn0 (w.drewN n) w') : Calls Try.prog f args (w.drewN n) fun e w'' => e = .returned v ∧ ∃ m, w'' = w.drewN m :=
  Calls.quiet_of (h.mono fun _ _ ⟨he, ⟨m, hm⟩⟩ => ⟨he, m, hm⟩)
set_option maxHeartbeats 4000000 in
set_option maxRecDepth 100000 in
theorem swaps_walk (s t : ByteArray) (k y z : Int) (q : Nat) (w : World) (hs : s.size ≤ 20000) (hp : 1 < s.size) (ht : t.size ≤ 20000) (hk0 : 0 ≤ k) (hk1 : k ≤ 65535)
    (hq : k % ((s.size : Int) - 1) = (q : Int)) (hqs : q + 1 < s.size) (hy : bt s q = y) (hz : bt s (q + 1 : Nat) = z) (ht' : strOfNums (((bl s).set q z).set (q + 1) y) = t) (he : ((sum t == sum s) == (y == z)) = true) :
    Calls Try.prog 4 #[.string s, .int .u16 k] w fun e w' => e = .returned (.bool true) ∧ Below w.heap.size w w' := by
  have c1 : decide ((20000 : Int) < (s.size : Int)) = false := decide_eq_false (by omega)
  have c2 : decide (20000 < s.size) = false := decide_eq_false (by omega)
  have c3 : decide ((s.size : Int) < 2) = false := decide_eq_false (by omega)
  have c4 : decide (s.size < 2) = false := decide_eq_false (by omega)
  have c5 : (((s.size : Int) - 1) == 0) = false := beq_eq_false_iff_ne.2 (by omega)
  have HT := Lib.hid ht'
  have HY := Lib.hid hy
  have HZ := Lib.hid hz
  have HE := Lib.hid he
  clear ht' hy hz he
  go_enter Try.func4, Try.ntmps4
  go_wp2_with fail
  refine (awake_c _).mono ?_
  rintro e w1 ⟨rfl, hd⟩
  have HB1 := Lib.hid hd.below
  clear hd
  obtain ⟨W, c, hcv, hbl, hsz, hcell, hfz⟩ := bytes_of s w1
  have HB2 := below_on HB1 (Nat.le_refl _) hbl
  have hc0 : W.cell? ⟨w1.heap.size, q, none⟩ = some (.int .u8 y) := by rw [hcell q (by omega), HY.out]
  have hc1 : W.cell? ⟨w1.heap.size, q + 1, none⟩ = some (.int .u8 z) := by rw [hcell (q + 1) hqs, HZ.out]
  have hf0 := hfz q (by omega)
  have hf1 := hfz (q + 1) hqs
  have hback := fun n => bytes_back2 s w1.heap.size c q y z W hqs hcell n
  rw [HT.out] at hback
  have HK := Lib.hid hback
  clear hback
  have HW : Hid (w.heap.size ≤ w1.heap.size) := HB1.out.size
  clear hbl hcell hfz hsz
  go_wp2_with fail
  go_region
  have HB3 : Hid (Below w.heap.size w (((W.setCell ⟨w1.heap.size, q, none⟩ (.int .u8 z)).setCell ⟨w1.heap.size, q + 1, none⟩ (.int .u8 y)).drew)) := ((HB2.out.setCell HW.out _).setCell HW.out _).drew
  generalize hW2 : ((W.setCell ⟨w1.heap.size, q, none⟩ (.int .u8 z)).setCell ⟨w1.heap.size, q + 1, none⟩ (.int .u8 y)).drew = W2 at HB3 HK ⊢
  have hback := HK.out
  have i0 : ∀ h : q < s.size, ((s[q]'h).toNat : Int) = y := fun h => by rw [← HY.out]; unfold bt; rw [dif_pos (by simpa using h)]; rfl
  have i1 : ∀ h : q + 1 < s.size, ((s[q + 1]'h).toNat : Int) = z := fun h => by rw [← HZ.out]; unfold bt; rw [dif_pos (by rw [Int.toNat_natCast]; exact h)]; rfl
  have b0 : (q : Int) < (s.size : Int) := by omega
  have b1 : (q : Int) + 1 < (s.size : Int) := by omega
  have b2 : q < s.size := by omega
  clear hW2 hc0 hc1 hf0 hf1 hcv
  go_wp2_with fail
  go_quiet ((go_at_call 13; exact quiet_d (sum_c _ (by omega) _)))
  go_wp2_with fail
  go_ret
  refine ⟨?_, pw_below_drewN HB3.out _⟩
  rw [← HE.out]
  rfl
theorem sum_two (p r : List Int) (y z : Int) (hy : 0 ≤ y ∧ y < 256) (hz : 0 ≤ z ∧ z < 256) : B (p ++ z :: y :: r) * 65536 + A (p ++ z :: y :: r) = B (p ++ y :: z :: r) * 65536 + A (p ++ y :: z :: r) ↔ y = z := by
  rw [A_swap p r z y]
  constructor
  · intro h
    exact ((B_swap p r z y hz hy).1 (by omega)).symm
  · intro h
    rw [h]
theorem sum_swap (s : ByteArray) (q : Nat) (hq : q + 1 < s.size) : sum (strOfNums (((bl s).set q (bt s (q + 1 : Nat))).set (q + 1) (bt s q))) = sum s ↔ bt s q = bt s (q + 1 : Nat) := by
  have hl : q + 1 < (bl s).length := by rw [bl_length]; exact hq
  have hr := bl_range s
  have h0 := bt_range s q
  have h1 := bt_range s (q + 1 : Nat)
  have e2 : bl s = (bl s).take q ++ bt s q :: bt s (q + 1 : Nat) :: (bl s).drop (q + 2) := by
    rw [← bl_drop s (q + 1) hq, ← bl_drop s q (by omega), List.take_append_drop]
  have hlp : ((bl s).take q).length = q := by rw [List.length_take, bl_length]; omega
  have key := sum_two ((bl s).take q) ((bl s).drop (q + 2)) (bt s q) (bt s (q + 1 : Nat)) (by omega) (by omega)
  have e1 : ((bl s).set q (bt s (q + 1 : Nat))).set (q + 1) (bt s q) = (bl s).take q ++ bt s (q + 1 : Nat) :: bt s q :: (bl s).drop (q + 2) := by
    conv => lhs; rw [e2]
    rw [List.set_append_right _ _ (by omega), hlp, Nat.sub_self, List.set_cons_zero, List.set_append_right _ _ (by omega), hlp, show q + 1 - q = 1 by omega, List.set_cons_succ, List.set_cons_zero]
  have hb : bl (strOfNums (((bl s).set q (bt s (q + 1 : Nat))).set (q + 1) (bt s q))) = ((bl s).set q (bt s (q + 1 : Nat))).set (q + 1) (bt s q) := bl_str _ (fun x hx => by
    rcases List.mem_or_eq_of_mem_set hx with h | h
    · rcases List.mem_or_eq_of_mem_set h with h | h
      · exact hr x h
      · omega
    · omega)
  rw [← e2, ← e1] at key
  unfold sum
  rw [hb]
  exact key
set_option maxHeartbeats 2000000 in
theorem swaps_long (s : ByteArray) (k : Int) (w : World) (hs : 20000 < s.size) : Calls Try.prog 4 #[.string s, .int .u16 k] w fun e w' => e = .returned (.bool true) ∧ Below w.heap.size w w' := by
  have c1 : decide ((20000 : Int) < (s.size : Int)) = true := decide_eq_true (by omega)
  have c2 : decide (20000 < s.size) = true := decide_eq_true (by omega)
  go_enter Try.func4, Try.ntmps4
  go_wp2_with fail
  refine (awake_c _).mono ?_
  rintro e w1 ⟨rfl, hd⟩
  have HB1 := Lib.hid hd.below
  clear hd
  go_wp2_with fail
  refine (awake_c _).mono ?_
  rintro e w2 ⟨rfl, hd⟩
  have HB2 := below_on HB1 (Nat.le_refl _) hd.below
  clear hd
  go_wp2_with fail
  go_ret
  exact ⟨rfl, HB2.out⟩
set_option maxHeartbeats 2000000 in
theorem swaps_none (s : ByteArray) (k : Int) (w : World) (hs : s.size < 2) : Calls Try.prog 4 #[.string s, .int .u16 k] w fun e w' => e = .returned (.bool true) ∧ Below w.heap.size w w' := by
  have c1 : decide ((20000 : Int) < (s.size : Int)) = false := decide_eq_false (by omega)
  have c2 : decide (20000 < s.size) = false := decide_eq_false (by omega)
  have c3 : decide ((s.size : Int) < 2) = true := decide_eq_true (by omega)
  have c4 : decide (s.size < 2) = true := decide_eq_true hs
  have HS := Lib.hid hs
  clear hs
  go_enter Try.func4, Try.ntmps4
  go_wp2_with fail
  refine (awake_c _).mono ?_
  rintro e w1 ⟨rfl, hd⟩
  have HB1 := Lib.hid hd.below
  clear hd
  go_wp2_with fail
  refine (awake_c _).mono ?_
  rintro e w2 ⟨rfl, hd⟩
  have HB2 := below_on HB1 (Nat.le_refl _) hd.below
  clear hd
  go_wp2_with fail
  go_ret
  exact ⟨rfl, HB2.out⟩
theorem walk (s : ByteArray) (k : Int) (w : World) (_hs : s.size ≤ 140737488351232) (hk : (Lit.int .u16 k).wf = true) : Calls Try.prog 4 #[.string s, .int .u16 k] w fun e w' => e = .returned (.bool true) ∧ Below w.heap.size w w' := by
  have hk' : 0 ≤ k ∧ k ≤ 65535 := by
    simp [Lit.wf, IntKind.min, IntKind.max, IntKind.bits, IntKind.signed] at hk
    omega
  by_cases h : 20000 < s.size
  · exact swaps_long s k w h
  · by_cases h0 : s.size < 2
    · exact swaps_none s k w h0
    · have m0 : 0 ≤ k % ((s.size : Int) - 1) := Int.emod_nonneg _ (by omega)
      have m1 : k % ((s.size : Int) - 1) < (s.size : Int) - 1 := Int.emod_lt_of_pos _ (by omega)
      obtain ⟨q, hq⟩ := Int.eq_ofNat_of_zero_le m0
      have hqs : q + 1 < s.size := by omega
      have key := sum_swap s q hqs
      refine swaps_walk s _ k _ _ q w (by omega) (by omega) ?_ hk'.1 hk'.2 hq hqs rfl rfl rfl ?_
      · rw [strOfNums_size, List.length_set, List.length_set, bl_length]; omega
      · by_cases e : bt s q = bt s (q + 1 : Nat)
        · rw [beq_iff_eq.2 (key.2 e), beq_iff_eq.2 e]; rfl
        · rw [beq_eq_false_iff_ne.2 (fun h => e (key.1 h)), beq_eq_false_iff_ne.2 e]; rfl
end Go.Proofs.Ytnpndfcghfoofaa.RowAdlerSwaps
