/- Disk.settle, Flush, Crash, New. -/
import Derived.Test.YtaodgnladjafoaaDoorDisk4V
set_option linter.unusedVariables false
set_option linter.unusedSimpArgs false
namespace Go.Proofs.YtaodgnladjafoaaDoor.Dk
open Go.RowKit Go.Proofs.YtaodgnladjafoaaDoorW.PrintWords Go.Proofs.YtaodgnladjafoaaDoorW.PrintLast Go.Proofs.YtaodgnladjafoaaDoorW.PrintMore Go.Proofs.YtaodgnladjafoaaDoor.Md
open Go.Extern.Stop (cell)
open Go.Proofs.YtaodgnladjafoaaDoor.Err (Laid IsErr code_nil Chain at_some at_nil)
/-- which of the writes a mask makes firm: write n, if the mask's bit n (modulo 64) is 1 -/
def bit (mask n : Nat) : Bool := mask / 2 ^ (n % 64) % 2 == 1
def stl (mask : Nat) (F : Int → Pg) : List (Int × Pg) → Nat → (Int → Pg)
  | [], _ => F
  | x :: r, n => stl mask (if bit mask n then upd F x.1 x.2 else F) r (n + 1)
theorem stl_snoc (mask : Nat) (x : Int × Pg) : ∀ (l : List (Int × Pg)) (F : Int → Pg) (n : Nat), stl mask F (l ++ [x]) n = if bit mask (n + l.length) then upd (stl mask F l n) x.1 x.2 else stl mask F l n
  | [], F, n => rfl
  | y :: l, F, n => by
    simp only [List.cons_append, stl, List.length_cons]
    rw [stl_snoc mask x l _ (n + 1), show n + 1 + l.length = n + (l.length + 1) by omega]
theorem u64_and1 (x : Nat) (h : x < 2 ^ 64) : Go.bits .and .u64 (x : Int) 1 = ((x % 2 : Nat) : Int) := by
  have key : (BitVec.ofInt 64 (x : Int) &&& BitVec.ofInt 64 1).toNat = x % 2 := by
    rw [BitVec.toNat_and, BitVec.toNat_ofInt]
    have : (BitVec.ofInt 64 1).toNat = 2 ^ 1 - 1 := by decide
    rw [this, Nat.and_two_pow_sub_one_eq_mod]
    omega
  show IntKind.u64.wrap ((BitVec.ofInt 64 (x : Int) &&& BitVec.ofInt 64 1).toNat : Nat) = _
  rw [key]
  simp [IntKind.wrap, IntKind.bits, IntKind.signed]
  omega
theorem bit_eq (mask k : Nat) (hm : mask < 2 ^ 64) : (Go.bits .and .u64 ((mask : Int) / 2 ^ (k % 64)) 1 == 1) = bit mask k := by
  have e : (mask : Int) / 2 ^ (k % 64) = ((mask / 2 ^ (k % 64) : Nat) : Int) := by push_cast; rfl
  rw [e, u64_and1 _ (Nat.lt_of_le_of_lt (Nat.div_le_self _ _) hm)]
  unfold bit
  rw [Bool.eq_iff_iff]
  simp
  omega
set_option maxHeartbeats 4000000 in
set_option maxRecDepth 100000 in
theorem settle_c (w : World) (R M : Nat) (v : Value) (d : Dsk) (mask : Nat) (h : Hid (IsD w R M v d)) (hm : mask < 2 ^ 64) (hl : d.soft.length ≤ 9000) :
    Calls Tryd.prog 73 #[.pointer (some ⟨R, 0, none⟩), .int .u64 (mask : Int)] w fun ev w' => ev = .returned (.tuple #[]) ∧ Mod (Ft R M v) w w' ∧ IsD w' R M (.slice none 0 0) { d with firm := stl mask d.firm d.soft 0, soft := [] } := by
  obtain ⟨A, c, rfl⟩ := Kd.R_slice h.out.soft
  obtain ⟨n, hn2⟩ : ∃ n, d.soft.length = n := ⟨_, rfl⟩
  have HNn := Lib.hid hn2
  have c2 := h.out.c2
  rw [hn2] at c2 h hl ⊢
  clear hn2
  go_enter Tryd.func73, Tryd.ntmps73
  go_wp2_with fail
  go_loopg [11] n (fun kq v0 wr => ∃ k : Nat, v0 = .int .i64 (k : Int) ∧ kq + k = n ∧ Hid (Mod (Ft R M (.slice A n c)) w wr) ∧ Hid (IsD wr R M (.slice A n c) { d with firm := stl mask d.firm (d.soft.take k) 0 }))
  case atStart => exact ⟨0, rfl, by omega, Lib.hid (Mod.refl _ _), h⟩
  case round =>
    clear h c2
    obtain ⟨k, rfl, hk, HM, HD⟩ := hrel
    cases gk with
    | zero =>
      have hkn : k = n := by omega
      have c5 : decide ((k : Int) < (n : Int)) = false := decide_eq_false (by omega)
      have c5' : decide (k < n) = false := decide_eq_false (by omega)
      have HD2 := Lib.hid (show IsD wr R M (.slice A n c) { d with firm := stl mask d.firm d.soft 0 } by
        have := HD.out
        rw [hkn, ← HNn.out, List.take_length, HNn.out] at this
        exact this)
      have f2 := HD2.out.fz 2
      have c2 := HD2.out.c2
      clear hk hkn HD
      go_wp2_with fail
      go_end0
      have hM := mod_set wr R 2 (.slice none 0 0)
      refine ⟨rfl, HM.out.tr (hM.mono (fun _ _ h => .inl h)), ?_, HD2.out.map.mod hM HD2.out.ne.symm, Kd.R_nil _ _ _ _ _⟩
      exact HD2.out.setCell 2 _ _ rfl
    | succ k1 =>
      have hkn : k < n := by omega
      have hkl : k < d.soft.length := by have := HNn.out; omega
      have c5 : decide ((k : Int) < (n : Int)) = true := decide_eq_true (by omega)
      have c5' : decide (k < n) = true := decide_eq_true (by omega)
      have q5 : IntKind.i64.wrap ((k : Int) + 1) = (k : Int) + 1 := IntWalk.i64_in _ (by omega)
      have p1 : (0 ≤ (k : Int)) = True := eq_true (by omega)
      have p2 : ((k : Int) < (n : Int)) = True := eq_true (by omega)
      obtain ⟨g, rfl, hr⟩ := soft_at HD.out.soft k hkl
      have hfold := stl_snoc mask d.soft[k] (d.soft.take k) d.firm 0
      rw [← List.take_succ_eq_append_getElem hkl, List.length_take, Nat.min_eq_left (Nat.le_of_lt hkl), Nat.zero_add] at hfold
      obtain ⟨x, hx⟩ : ∃ x, d.soft[k] = x := ⟨_, rfl⟩
      simp only [hx] at hr hfold
      have HR := Lib.hid hr
      have HFo := Lib.hid hfold
      obtain ⟨F, hF⟩ : ∃ F, stl mask d.firm (d.soft.take k) 0 = F := ⟨_, rfl⟩
      rw [hF] at HD HFo
      obtain ⟨hc, hpr⟩ := soft_cells wr x
      have HPR := Lib.hid hpr
      clear hx hr hfold hF hpr
      have hb1 : Below wr.heap.size wr (wr.alloc (Obj.cells (sa x) 127 (0, 0))) := (Below.refl _ _).alloc (Nat.le_refl _) _
      have HM1 := Lib.hid (HM.out.on_below hb1 (Nat.le_refl _))
      have HD1 := Lib.hid (HD.out.on hb1)
      clear hb1
      have eb := bit_eq mask k hm
      cases hb : bit mask k with
      | false =>
        rw [hb] at eb HFo
        have HF2 := Lib.hid (show stl mask d.firm (d.soft.take (k + 1)) 0 = F by rw [HFo.out]; rfl)
        clear HFo hb
        go_wp2_with (first | (refine wl_load67 g (k * 65) x HR.out rfl _ rfl rfl ?_) | (refine wl_alloc67 rfl rfl ?_) | (refine wl_store67 x rfl _ _ rfl rfl rfl ?_))
        go_roundg k1
        case measure => exact Nat.lt_succ_self _
        case rel => exact ⟨k + 1, by simp, by omega, HM1, Lib.hid (by rw [HF2.out]; exact HD1.out)⟩
      | true =>
        rw [hb] at eb HFo
        have HF2 := Lib.hid (show stl mask d.firm (d.soft.take (k + 1)) 0 = upd F x.1 x.2 by rw [HFo.out]; rfl)
        clear HFo hb
        go_wp2_with (first | (refine wl_load67 g (k * 65) x HR.out rfl _ rfl rfl ?_) | (refine wl_alloc67 rfl rfl ?_) | (refine wl_store67 x rfl _ _ rfl rfl rfl ?_))
        obtain ⟨W1, hW1⟩ : ∃ W1, wr.alloc (Obj.cells (sa x) 127 (0, 0)) = W1 := ⟨_, rfl⟩
        obtain ⟨K1, hK1⟩ : ∃ K1, wr.heap.size = K1 := ⟨_, rfl⟩
        rw [hW1] at HM1 HD1 HPR hc
        rw [hK1] at HPR hc
        rw [hW1]
        simp only [hK1]
        have hd1 : IsD W1.drew R M _ _ := HD1.out.mod (S := fun _ => False) (Mod.refl _ _).drew (fun _ _ h => h)
        obtain ⟨w9, hr9, hm9, hM9⟩ := Dk.store W1.drew M F x.1 x.2 hd1.map
        have hr9' : (Instr.mapUpdate 60 (.map (some M)) (.int .i64 x.1) (.agg (pcs x.2).toArray)).run Tryd.prog W1.drew = .ok () w9 := hr9
        have hKM : K1 ≠ M := by have := HD.out.map.lt; omega
        have hS : W1.drew.cell? ⟨R, 1, none⟩ = some (.map (some M)) ∧ W1.drew.cell? ⟨K1, 0, none⟩ = some (.int .i64 x.1) ∧ W1.drew.rangeAt K1 1 (pcs x.2) := ⟨hd1.c1, hc, HPR.out⟩
        have hS9 : w9.cell? ⟨R, 1, none⟩ = some (.map (some M)) ∧ w9.cell? ⟨K1, 0, none⟩ = some (.int .i64 x.1) ∧ w9.rangeAt K1 1 (pcs x.2) :=
          ⟨hM9.cell hS.1 (fun (e : R = M) => HD.out.ne e), hM9.cell hS.2.1 (fun (e : K1 = M) => hKM e), fun j u hu => hM9.cell (hS.2.2 j u hu) (fun (e : K1 = M) => hKM e)⟩
        have hs9 : Kd.R sk 127 w9 0 (fun k => k ≠ R ∧ k ≠ M) (.slice (some ⟨g, 0, none⟩) n c) d.soft := by
          obtain ⟨h0, inner, ho, hr⟩ := hd1.soft
          exact ⟨h0, inner, own_move ho (fun i hi => hM9.block i (own_lt ho i hi) (h0 i hi).2), hr⟩
        have HD9 := Lib.hid (show IsD w9 R M (.slice (some ⟨g, 0, none⟩) n c) { d with firm := upd F x.1 x.2 } from ⟨hM9.blk hd1.blk (fun (e : R = M) => HD.out.ne e), hm9, hs9⟩)
        have HM9 := Lib.hid ((HM1.out.drew).tr (hM9.mono (fun _ _ (h : _ = M) => .inr (.inl h))))
        have HS := Lib.hid hS
        have HS9 := Lib.hid hS9
        clear hS hS9 hr9 hc
        have hu30 := Tryd.underlying91
        have hi30 : (Tryd.prog.info? 91).map (·.size) = some (pcs x.2).length := by rw [pcs_length]; exact size30
        go_region_held3 (fun w' => w'.cell? ⟨R, 1, none⟩ = some (.map (some M)) ∧ w'.cell? ⟨K1, 0, none⟩ = some (.int .i64 x.1) ∧ w'.rangeAt K1 1 (pcs x.2))
          (first | with_reducible exact HS.out | with_reducible exact HS9.out)
          (fail)
        clear hm9 hM9 hs9
        go_wp2_with fail
        go_roundg k1
        case measure => exact Nat.lt_succ_self _
        case rel => exact ⟨k + 1, by simp, by omega, HM9, Lib.hid (by rw [HF2.out]; exact HD9.out)⟩
set_option maxHeartbeats 1000000 in
set_option maxRecDepth 100000 in
theorem flush_ok (w : World) (R M : Nat) (v : Value) (d : Dsk) (h : Hid (IsD w R M v d)) (hn : mayN d 0 = 0) (hl : d.soft.length ≤ 9000) :
    Calls Tryd.prog 54 #[.pointer (some ⟨R, 0, none⟩)] w fun ev w' => ev = .returned .nilIface ∧ Mod (Ft R M v) w w' ∧ IsD w' R M (.slice none 0 0) { d with firm := stl 18446744073709551615 d.firm d.soft 0, soft := [] } := by
  go_enter Tryd.func54, Tryd.ntmps54
  go_wp2_with fail
  refine (may_c _ R M v d 0 h).mono ?_
  rintro e w2 ⟨he, hd2⟩
  rw [if_pos hn] at he
  subst he
  have HB2 := Lib.hid hd2
  clear hd2
  go_wp2_with fail
  refine (settle_c w2 R M v d 18446744073709551615 (Lib.hid (h.out.on HB2.out)) (by decide) hl).mono ?_
  rintro e w3 ⟨rfl, hm, hd⟩
  have HM := Lib.hid ((Mod.of_below (S := Ft R M v) HB2.out (Nat.le_refl _)).tr hm)
  have HD := Lib.hid hd
  clear hm hd
  go_wp2_with fail
  go_ret
  exact ⟨rfl, HM.out, HD.out⟩
set_option maxHeartbeats 1000000 in
set_option maxRecDepth 100000 in
theorem new_c (w : World) (n : Int) (h1 : 1 ≤ n) (h2 : n ≤ 2048) :
    Calls Tryd.prog 7 #[.int .i64 n] w fun ev w' => ∃ R M, w.heap.size ≤ R ∧ w.heap.size ≤ M ∧ ev = .returned (.tuple #[.pointer (some ⟨R, 0, none⟩), .nilIface]) ∧ Below w.heap.size w w' ∧ IsD w' R M (.slice none 0 0) ⟨n, fun _ => pz, [], false, -1⟩ := by
  have c1 : decide (n < 1) = false := decide_eq_false (by omega)
  have c2 : decide (n > 2048) = false := decide_eq_false (by omega)
  have hmm := @run_makeMap Tryd.prog
  clear h1 h2
  go_enter Tryd.func7, Tryd.ntmps7
  go_wp2_with fail
  go_ret2
  have hb : Below w.heap.size w (w.alloc (Obj.map #[] 0)) := (Below.refl _ _).alloc (Nat.le_refl _) _
  refine ⟨w.heap.size + 1, w.heap.size, by omega, Nat.le_refl _, rfl, hb.alloc hb.size _, ?_, ?_, Kd.R_nil _ _ _ _ _⟩
  · have z := heap_alloc_last (w.alloc (Obj.map #[] 0)) (Obj.cells #[.int .i64 n, .map (some w.heap.size), .slice none 0 0, .bool false, .int .i64 (-1)] 63 (0, 0))
    have e : (w.alloc (Obj.map #[] 0)).heap.size = w.heap.size + 1 := by simp
    rw [e] at z
    exact z
  · refine ⟨#[], 0, ?_, fun e he => by simp at he, fun k _ => rfl, fun i j e f he => by simp at he⟩
    rw [heap_alloc_old _ _ (by simp)]
    exact heap_alloc_new _ _
end Go.Proofs.YtaodgnladjafoaaDoor.Dk
