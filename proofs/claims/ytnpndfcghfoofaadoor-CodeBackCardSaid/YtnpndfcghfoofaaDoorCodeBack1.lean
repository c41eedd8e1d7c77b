/- CodeBack, the walk. -/
import Derived.Test.YtnpndfcghfoofaaDoorCodeCalls
set_option linter.unusedVariables false
namespace Go.Proofs.YtnpndfcghfoofaaDoor.RowCodeBack
open Go.RowKit Go.Proofs.YtnpndfcghfoofaaDoorW.PrintWords Go.Proofs.YtnpndfcghfoofaaDoorW.PrintLast Go.Proofs.YtnpndfcghfoofaaDoorW.PrintMore Go.Proofs.YtnpndfcghfoofaaDoor.CdM Go.Proofs.YtnpndfcghfoofaaDoor.Md Go.Proofs.YtnpndfcghfoofaaDoor.Rdr Go.Proofs.YtnpndfcghfoofaaDoor.PCodeBack
open Go.Proofs.YtnpndfcghfoofaaDoor.Err (Laid code_nil)
theorem awake_c (w : World) : Calls Tryd.prog 12 #[] w fun e w' => e = .returned (.bool true) ∧ Below w.heap.size w w' := by
  refine shalelaw04_awake.calls 11 true w ?_
  unfold shalelaw04_awake.f
  refine bnd (num_at 300 (by decide) 11 (Nat.le_refl _)) ?_
  have e : numS 300 = ⟨#[172, 2]⟩ := by
    have h : num 300 = [172, 2] := by rw [num_big (by omega), num_small (by omega)]
    unfold numS digs
    rw [h]
    rfl
  rw [e]
  decide +kernel
/-- pieces one behind the other -/
def cat (f : Nat → ByteArray) : Nat → ByteArray
  | 0 => ByteArray.empty
  | i + 1 => cat f i ++ f i
theorem cat_split (f : Nat → ByteArray) (i : Nat) : ∀ n, i < n → ∃ c, cat f n = cat f i ++ f i ++ c
  | 0, h => by omega
  | n + 1, h => by
    by_cases e : i = n
    · subst e; exact ⟨ByteArray.empty, by simp [cat]⟩
    · obtain ⟨c, hc⟩ := cat_split f i n (by omega)
      exact ⟨c ++ f n, by simp only [cat]; rw [hc]; simp [ByteArray.append_assoc]⟩
theorem cat_size (f : Nat → ByteArray) (b : Nat) (n : Nat) (h : ∀ i, i < n → (f i).size ≤ b) : (cat f n).size ≤ b * n := by
  induction n with
  | zero => simp [cat]
  | succ n ih =>
    have h1 := ih (fun i hi => h i (by omega))
    have h2 := h n (by omega)
    simp only [cat, ByteArray.size_append, Nat.mul_succ]
    omega
/-- the number at i, as the law takes it -/
def xat (l : List Int) (i : Nat) : Nat := (l.getD i 0 % 4611686018427387904).toNat
theorem xat_le (l : List Int) (i : Nat) : xat l i < 4611686018427387904 := by unfold xat; omega
theorem xat_bits (l : List Int) (i : Nat) : Go.bits .and .i64 (l.getD i 0) 4611686018427387903 = (xat l i : Int) := by rw [and62]; unfold xat; omega
def tat (t : List ByteArray) (i : Nat) : ByteArray := t.getD i ByteArray.empty
def fN (l : List Int) (i : Nat) : ByteArray := numS (xat l i)
def fT (t : List ByteArray) (i : Nat) : ByteArray := numS (tat t i).size ++ tat t i
theorem fN_size (l : List Int) (i : Nat) : (fN l i).size ≤ 9 := numS_nine (by have := xat_le l i; omega)
theorem fT_size (t : List ByteArray) (i : Nat) (h : (tat t i).size ≤ 2000) : (fT t i).size ≤ 2009 := by
  have := numS_nine (n := (tat t i).size) (by omega)
  unfold fT; simp only [ByteArray.size_append]; omega
def all (l : List Int) (t : List ByteArray) : ByteArray := cat (fN l) l.length ++ cat (fT t) t.length
theorem all_size (l : List Int) (t : List ByteArray) (hl : l.length ≤ 60) (ht : t.length ≤ 60) (h : ∀ i, i < t.length → (tat t i).size ≤ 2000) : (all l t).size ≤ 130000 := by
  have h1 := cat_size (fN l) 9 l.length (fun i _ => fN_size l i)
  have h2 := cat_size (fT t) 2009 t.length (fun i hi => fT_size t i (h i hi))
  unfold all; simp only [ByteArray.size_append]; omega
theorem all_num (l : List Int) (t : List ByteArray) (i : Nat) (hi : i < l.length) : Stands (all l t) (cat (fN l) i).size (xat l i) := by
  obtain ⟨c, hc⟩ := cat_split (fN l) i l.length hi
  have e : all l t = cat (fN l) i ++ numS (xat l i) ++ (c ++ cat (fT t) t.length) := by unfold all; rw [hc]; simp [ByteArray.append_assoc, fN]
  rw [e]; exact stands_mid _ _ _
theorem all_len (l : List Int) (t : List ByteArray) (i : Nat) (hi : i < t.length) : Stands (all l t) ((cat (fN l) l.length).size + (cat (fT t) i).size) (tat t i).size := by
  obtain ⟨c, hc⟩ := cat_split (fT t) i t.length hi
  have e : all l t = (cat (fN l) l.length ++ cat (fT t) i) ++ numS (tat t i).size ++ (tat t i ++ c) := by unfold all; rw [hc]; simp [ByteArray.append_assoc, fT]
  rw [e, ← ByteArray.size_append]; exact stands_mid _ _ _
theorem all_text (l : List Int) (t : List ByteArray) (i : Nat) (hi : i < t.length) (p : Nat) (hp : p = (cat (fN l) l.length).size + (cat (fT t) i).size + (num (tat t i).size).length) : (all l t).extract p (p + (tat t i).size) = tat t i := by
  obtain ⟨c, hc⟩ := cat_split (fT t) i t.length hi
  have e : all l t = (cat (fN l) l.length ++ cat (fT t) i ++ numS (tat t i).size) ++ tat t i ++ c := by unfold all; rw [hc]; simp [ByteArray.append_assoc, fT]
  rw [e]; exact ext_mid _ _ _ _ (by simp only [ByteArray.size_append, numS_size]; omega)
theorem all_end (l : List Int) (t : List ByteArray) (i : Nat) (hi : i < t.length) : (cat (fN l) l.length).size + (cat (fT t) (i + 1)).size ≤ (all l t).size := by
  obtain ⟨c, hc⟩ := cat_split (fT t) i t.length hi
  unfold all
  rw [hc]
  simp only [cat, ByteArray.size_append]; omega
theorem at_num {w : World} {A : Option Addr} {l : List Int} (h : Kd.C (Kd.int .i64) w A l.length l) (i : Nat) (hi : i < l.length) : ∃ ad, A = some ad ∧ w.cell? (ad.add i) = some (.int .i64 (l.getD i 0)) := by
  obtain ⟨_, _, h3⟩ := h
  obtain ⟨ad, e, hx⟩ := h3 (by omega)
  obtain ⟨cs, h1, h2, h4⟩ := hx i (l.getD i 0) (by rw [List.getD_eq_getElem?_getD, List.getElem?_eq_getElem hi]; rfl)
  have h2' : cs = [.int .i64 (l.getD i 0)] := h2
  subst h2'
  have := h4 0 _ rfl
  exact ⟨ad, e, by simpa [Kd.int, Kd.scalar] using this⟩
theorem at_text {w : World} {A : Option Addr} {l : List ByteArray} (h : Kd.C Kd.string w A l.length l) (i : Nat) (hi : i < l.length) : ∃ ad, A = some ad ∧ w.cell? (ad.add i) = some (.string (tat l i)) := by
  obtain ⟨_, _, h3⟩ := h
  obtain ⟨ad, e, hx⟩ := h3 (by omega)
  obtain ⟨cs, h1, h2, h4⟩ := hx i (l.getD i ByteArray.empty) (by rw [List.getD_eq_getElem?_getD, List.getElem?_eq_getElem hi]; rfl)
  have h2' : cs = [.string (l.getD i ByteArray.empty)] := h2
  subst h2'
  have := h4 0 _ rfl
  exact ⟨ad, e, by simpa [Kd.string, Kd.scalar, tat] using this⟩
theorem few_next {t : List ByteArray} {i : Nat} {y : ByteArray} (h : Hid (∀ j, j < i → (tat t j).size ≤ 2000)) (hy : Hid (tat t i = y)) (hb : y.size ≤ 2000) : Hid (∀ j, j < i + 1 → (tat t j).size ≤ 2000) :=
  Lib.hid (fun j hj => by
    by_cases e : j = i
    · rw [e, hy.out]; exact hb
    · exact h.out j (by omega))
set_option maxHeartbeats 4000000 in
set_option maxRecDepth 100000 in
theorem many (A B : Option Addr) (n c m d : Nat) (w : World) (hl : 60 < n ∨ (n ≤ 60 ∧ 60 < m)) :
    Calls Tryd.prog 4 #[.slice A n c, .slice B m d] w fun e w' => e = .returned (.bool true) ∧ Below w.heap.size w w' := by
  rcases hl with h | ⟨h, h'⟩
  · have c1 : decide ((n : Int) > 60) = true := decide_eq_true (by omega)
    have c1' : decide (n > 60) = true := decide_eq_true (by omega)
    have hw := Lib.hid (Below.refl w.heap.size w)
    go_enter Tryd.func4, Tryd.ntmps4
    go_wp2_with fail
    refine (awake_c w).mono ?_
    rintro e w1 ⟨rfl, hd⟩
    have HB1 := below_to hw (Nat.le_refl _) hd
    clear hd
    go_wp2_with fail
    refine (awake_c _).mono ?_
    rintro e w2 ⟨rfl, hd⟩
    have HB2 := below_to HB1 (Nat.le_refl _) hd
    clear hd
    go_wp2_with fail
    go_ret
    exact ⟨rfl, HB2.out⟩
  · have c1 : decide ((n : Int) > 60) = false := decide_eq_false (by omega)
    have c1' : decide (n > 60) = false := decide_eq_false (by omega)
    have c2 : decide ((m : Int) > 60) = true := decide_eq_true (by omega)
    have c2' : decide (m > 60) = true := decide_eq_true (by omega)
    have hw := Lib.hid (Below.refl w.heap.size w)
    go_enter Tryd.func4, Tryd.ntmps4
    go_wp2_with fail
    refine (awake_c w).mono ?_
    rintro e w1 ⟨rfl, hd⟩
    have HB1 := below_to hw (Nat.le_refl _) hd
    clear hd
    go_wp2_with fail
    refine (awake_c _).mono ?_
    rintro e w2 ⟨rfl, hd⟩
    have HB2 := below_to HB1 (Nat.le_refl _) hd
    clear hd
    go_wp2_with fail
    go_ret
    exact ⟨rfl, HB2.out⟩
set_option maxHeartbeats 8000000 in
set_option maxRecDepth 100000 in
theorem few (A B : Option Addr) (n c m d : Nat) (l : List Int) (t : List ByteArray) (w : World) (hn : l.length = n) (hm : t.length = m) (h1 : n ≤ 60) (h2 : m ≤ 60) (hc : n ≤ c) (hd : m ≤ d) (hA : Hid (Kd.C (Kd.int .i64) w A l.length l)) (hB : Hid (Kd.C Kd.string w B t.length t)) :
    Calls Tryd.prog 4 #[.slice A n c, .slice B m d] w fun e w' => e = .returned (.bool true) ∧ Below w.heap.size w w' := by
  have c1 : decide ((n : Int) > 60) = false := decide_eq_false (by omega)
  have c1' : decide (n > 60) = false := decide_eq_false (by omega)
  have c2 : decide ((m : Int) > 60) = false := decide_eq_false (by omega)
  have c2' : decide (m > 60) = false := decide_eq_false (by omega)
  have HNn := Lib.hid hn
  have HMm := Lib.hid hm
  clear hn hm
  have hw := Lib.hid (Below.refl w.heap.size w)
  go_enter Tryd.func4, Tryd.ntmps4
  go_wp2_with fail
  refine (awake_c w).mono ?_
  rintro e w1 ⟨rfl, hd⟩
  have HB1 := below_to hw (Nat.le_refl _) hd
  clear hd
  go_wp2_with fail
  go_loopg [5, 6] n (fun kq v0 v1 w' => ∃ (i : Nat) (s : ByteArray), v0 = .string s ∧ v1 = .int .i64 (i : Int) ∧ kq + i = n ∧ Hid (cat (fN l) i = s) ∧ Hid (Below w.heap.size w w'))
  case atStart => exact ⟨0, ByteArray.empty, rfl, rfl, by omega, Lib.hid rfl, HB1⟩
  case round =>
    clear HB1 hw
    obtain ⟨i, s, rfl, rfl, hk, HS, HB⟩ := hrel
    cases gk with
    | zero =>
      have hin : i = n := by omega
      have HI := Lib.hid hin
      have c5 : decide ((i : Int) < (n : Int)) = false := decide_eq_false (by omega)
      have c5' : decide (i < n) = false := decide_eq_false (by omega)
      clear hin hk
      go_wp2_with fail
      clear c5 c5'
      have HS1 := Lib.hid (show cat (fN l) n = s by rw [← HI.out]; exact HS.out)
      clear HS HI
      go_loopg [5, 7] m (fun kq v0 v1 w' => ∃ (i : Nat) (s : ByteArray), v0 = .string s ∧ v1 = .int .i64 (i : Int) ∧ kq + i = m ∧ Hid (cat (fN l) n ++ cat (fT t) i = s) ∧ Hid (Below w.heap.size w w') ∧ Hid (∀ j, j < i → (tat t j).size ≤ 2000))
      case atStart => exact ⟨0, s, rfl, rfl, by omega, Lib.hid (by rw [HS1.out]; simp [cat]), HB, Lib.hid (fun j hj => by omega)⟩
      case round =>
        clear HB HS1
        clear s
        obtain ⟨i, s, rfl, rfl, hk, HS, HB, HT⟩ := hrel
        cases gk with
        | zero =>
          have hin : i = m := by omega
          have c5 : decide ((i : Int) < (m : Int)) = false := decide_eq_false (by omega)
          have c5' : decide (i < m) = false := decide_eq_false (by omega)
          have HS2 := Lib.hid (show all l t = s by rw [← HS.out, hin, ← HNn.out, ← HMm.out]; rfl)
          have HT2 := Lib.hid (show ∀ j, j < t.length → (tat t j).size ≤ 2000 from fun j hj => HT.out j (by have := HMm.out; omega))
          have hsz : s.size ≤ 130000 := by rw [← HS2.out]; exact all_size l t (by have := HNn.out; omega) (by have := HMm.out; omega) HT2.out
          clear hin hk HS HT
          go_wp2_with fail
          clear c5 c5'
          refine (new_v s _).mono ?_
          rintro e w4 ⟨R, hR, rfl, HH4, hd⟩
          have hRw : w.heap.size ≤ R := Nat.le_trans HB.out.size hR
          have HB4 := below_to HB (Nat.le_refl _) hd
          clear hd hR HB
          go_wp2_with fail
          go_loopg [9] n (fun kq v0 w' => ∃ (i : Nat), v0 = .int .i64 (i : Int) ∧ kq + i = n ∧ Hid (Below w.heap.size w w') ∧ Hid (Has w' R s (cat (fN l) i).size))
          case atStart => exact ⟨0, rfl, by omega, HB4, HH4⟩
          case round =>
            clear HB4 HH4
            obtain ⟨i, rfl, hk, HB, HH⟩ := hrel
            cases gk with
            | zero =>
              have hin : i = n := by omega
              have c5 : decide ((i : Int) < (n : Int)) = false := decide_eq_false (by omega)
              have c5' : decide (i < n) = false := decide_eq_false (by omega)
              have HH2 := Lib.hid (show Has wr R s (cat (fN l) n).size by rw [← hin]; exact HH.out)
              clear hin hk HH
              go_wp2_with fail
              clear c5 c5'
              go_loopg [12] m (fun kq v0 w' => ∃ (i : Nat), v0 = .int .i64 (i : Int) ∧ kq + i = m ∧ Hid (Below w.heap.size w w') ∧ Hid (Has w' R s ((cat (fN l) n).size + (cat (fT t) i).size)))
              case atStart => exact ⟨0, rfl, by omega, HB, Lib.hid (by have := HH2.out; simpa [cat] using this)⟩
              case round =>
                clear HB HH2
                obtain ⟨i, rfl, hk, HB, HH⟩ := hrel
                cases gk with
                | zero =>
                  have hin : i = m := by omega
                  have c5 : decide ((i : Int) < (m : Int)) = false := decide_eq_false (by omega)
                  have c5' : decide (i < m) = false := decide_eq_false (by omega)
                  have HH2 := Lib.hid (show Has wr R s s.size by
                    have e : (cat (fN l) n).size + (cat (fT t) i).size = s.size := by rw [← HS2.out, hin, ← HNn.out, ← HMm.out]; unfold all; simp only [ByteArray.size_append]
                    rw [← e]; exact HH.out)
                  clear hin hk HH
                  go_wp2_with fail
                  refine (left_v R s s.size 0 _ HH2 (Nat.le_refl _) (by omega) (Lib.hid (by omega))).mono ?_
                  rintro e w5 ⟨rfl, hhe, hd⟩
                  have HB5 := below_to HB (Nat.le_refl _) hd
                  clear hd hhe
                  go_wp2_with fail
                  go_ret
                  exact ⟨rfl, HB5.out⟩
                | succ k1 =>
                  have hin : i < m := by omega
                  have hit : i < t.length := by have := HMm.out; omega
                  have c5 : decide ((i : Int) < (m : Int)) = true := decide_eq_true (by omega)
                  have q5 : IntKind.i64.wrap ((i : Int) + 1) = (i : Int) + 1 := IntWalk.i64_in _ (by omega)
                  have p1 : (0 ≤ (i : Int)) = True := eq_true (by omega)
                  have p2 : ((i : Int) < (m : Int)) = True := eq_true (by omega)
                  obtain ⟨ad, rfl, x1⟩ := at_text hB.out i hit
                  have HX1 := Lib.hid x1
                  clear x1
                  obtain ⟨y, hy⟩ : ∃ y, tat t i = y := ⟨_, rfl⟩
                  have hy2 := HT2.out i hit
                  have HST := Lib.hid (all_len l t i hit)
                  have HEX := Lib.hid (all_text l t i hit _ rfl)
                  have hen := all_end l t i hit
                  have hcs : (cat (fT t) (i + 1)).size = (cat (fT t) i).size + ((numS (tat t i).size).size + (tat t i).size) := by simp only [cat, fT, ByteArray.size_append]
                  rw [hy] at HX1 hy2 HST HEX hcs
                  rw [HS2.out] at HST HEX hen
                  rw [HNn.out] at HST HEX hen
                  have hns := numS_size y.size
                  obtain ⟨p, hp⟩ : ∃ p, p = (cat (fN l) n).size + (cat (fT t) i).size := ⟨_, rfl⟩
                  rw [← hp] at HST HEX HH
                  obtain ⟨q, hq⟩ : ∃ q, q = p + (num y.size).length + y.size := ⟨_, rfl⟩
                  rw [← hq] at HEX
                  have hq2 : q = (cat (fN l) n).size + (cat (fT t) (i + 1)).size := by omega
                  have hqs : q ≤ s.size := by omega
                  have HQ := Lib.hid hq
                  have HQ2 := Lib.hid hq2
                  clear hy hcs hns hp hq hq2 hen hin hit
                  go_wp2_with fail
                  refine (str_v R s p y.size 2000 y q _ HH HST (by omega) (by omega) (by omega) HQ hqs HEX).mono ?_
                  rintro e w5 ⟨rfl, hm, hh⟩
                  have HB5 := mod_to HB (Nat.le_refl _) hRw hm
                  have HH5 := Lib.hid hh
                  clear hm hh HH HB
                  go_wp2_with fail
                  refine (code_nil _).mono ?_
                  rintro e w6 ⟨rfl, hd⟩
                  have HB6 := below_to HB5 (Nat.le_refl _) hd
                  have HH6 := bel_has HH5 hd
                  clear hd HH5 HB5
                  have x2 := (HB6.out.cell (World.block_lt_of_cell? w _ HX1.out)).trans HX1.out
                  go_wp2_with fail
                  go_roundg k1
                  case measure => exact Nat.lt_succ_self _
                  case rel => exact ⟨i + 1, by simp, by omega, HB6, Lib.hid (by rw [← HQ2.out]; exact HH6.out)⟩
            | succ k1 =>
              have hin : i < n := by omega
              have hil : i < l.length := by have := HNn.out; omega
              have c5 : decide ((i : Int) < (n : Int)) = true := decide_eq_true (by omega)
              have q5 : IntKind.i64.wrap ((i : Int) + 1) = (i : Int) + 1 := IntWalk.i64_in _ (by omega)
              have p1 : (0 ≤ (i : Int)) = True := eq_true (by omega)
              have p2 : ((i : Int) < (n : Int)) = True := eq_true (by omega)
              obtain ⟨ad, rfl, x1⟩ := at_num hA.out i hil
              have HX1 := Lib.hid x1
              clear x1
              have b1 := xat_bits l i
              obtain ⟨z, hz⟩ : ∃ z, l.getD i 0 = z := ⟨_, rfl⟩
              rw [hz] at HX1 b1
              have HST := Lib.hid (all_num l t i hil)
              have hcs : (cat (fN l) (i + 1)).size = (cat (fN l) i).size + (numS (xat l i)).size := by simp only [cat, fN, ByteArray.size_append]
              have hxl := xat_le l i
              rw [HS2.out] at HST
              obtain ⟨x, hx⟩ : ∃ x, xat l i = x := ⟨_, rfl⟩
              rw [hx] at b1 HST hcs hxl
              rw [numS_size] at hcs
              obtain ⟨p, hp⟩ : ∃ p, (cat (fN l) i).size = p := ⟨_, rfl⟩
              rw [hp] at HST HH hcs
              obtain ⟨q, hq⟩ : ∃ q, q = p + (num x).length := ⟨_, rfl⟩
              rw [← hq] at hcs
              have HQ := Lib.hid hq
              have HQ2 := Lib.hid hcs
              clear hz hx hp hq hcs hin hil
              go_wp2_with fail
              refine (num_v R s p x 4611686018427387904 q _ HH HST (by omega) (by omega) (by omega) HQ).mono ?_
              rintro e w5 ⟨rfl, hm, hh⟩
              have HB5 := mod_to HB (Nat.le_refl _) hRw hm
              have HH5 := Lib.hid hh
              clear hm hh HH HB
              go_wp2_with fail
              refine (code_nil _).mono ?_
              rintro e w6 ⟨rfl, hd⟩
              have HB6 := below_to HB5 (Nat.le_refl _) hd
              have HH6 := bel_has HH5 hd
              clear hd HH5 HB5
              have x2 := (HB6.out.cell (World.block_lt_of_cell? w _ HX1.out)).trans HX1.out
              go_wp2_with fail
              go_roundg k1
              case measure => exact Nat.lt_succ_self _
              case rel => exact ⟨i + 1, by simp, by omega, HB6, Lib.hid (by rw [HQ2.out]; exact HH6.out)⟩
        | succ k1 =>
          have hin : i < m := by omega
          have c5 : decide ((i : Int) < (m : Int)) = true := decide_eq_true (by omega)
          have q5 : IntKind.i64.wrap ((i : Int) + 1) = (i : Int) + 1 := IntWalk.i64_in _ (by omega)
          have p1 : (0 ≤ (i : Int)) = True := eq_true (by omega)
          have p2 : ((i : Int) < (m : Int)) = True := eq_true (by omega)
          obtain ⟨ad, rfl, x1⟩ := at_text hB.out i (by have := HMm.out; omega)
          replace x1 := (HB.out.cell (World.block_lt_of_cell? w _ x1)).trans x1
          obtain ⟨y, hy⟩ : ∃ y, tat t i = y := ⟨_, rfl⟩
          rw [hy] at x1
          have HY := Lib.hid hy
          clear hy
          by_cases hb : y.size ≤ 2000
          · have d1 : decide ((y.size : Int) > 2000) = false := decide_eq_false (by omega)
            have d1' : decide (y.size > 2000) = false := decide_eq_false (by omega)
            go_wp2_with fail
            have hss : s.size ≤ 130000 := by
              rw [← HS.out]
              have g1 := cat_size (fN l) 9 n (fun j _ => fN_size l j)
              have g2 := cat_size (fT t) 2009 i (fun j hj => fT_size t j (HT.out j hj))
              simp only [ByteArray.size_append]; omega
            have hx9 := numS_nine (show y.size ≤ 4611686018427387904 by omega)
            refine (cstr_c y _ (by omega)).mono ?_
            rintro e w2 ⟨rfl, hd⟩
            have HB2 := below_to HB (Nat.le_refl _) hd
            clear hd HB
            have hzz : (numS y.size ++ y).size ≤ 2009 := by simp only [ByteArray.size_append]; omega
            have z1 : (9223372036854775807 < s.size + (numS y.size ++ y).size) = False := eq_false (by omega)
            go_wp2_with fail
            go_roundg k1
            case measure => exact Nat.lt_succ_self _
            case rel => exact ⟨i + 1, _, rfl, by simp, by omega, Lib.hid (by rw [← HS.out, ByteArray.append_assoc]; show _ ++ (cat (fT t) i ++ fT t i) = _; unfold fT; rw [HY.out]), HB2, few_next HT HY hb⟩
          · have d1 : decide ((y.size : Int) > 2000) = true := decide_eq_true (by omega)
            have d1' : decide (y.size > 2000) = true := decide_eq_true (by omega)
            go_wp2_with fail
            go_ret
            exact ⟨rfl, HB.out⟩
    | succ k1 =>
      have hin : i < n := by omega
      have c5 : decide ((i : Int) < (n : Int)) = true := decide_eq_true (by omega)
      have q5 : IntKind.i64.wrap ((i : Int) + 1) = (i : Int) + 1 := IntWalk.i64_in _ (by omega)
      have p1 : (0 ≤ (i : Int)) = True := eq_true (by omega)
      have p2 : ((i : Int) < (n : Int)) = True := eq_true (by omega)
      obtain ⟨ad, rfl, x1⟩ := at_num hA.out i (by have := HNn.out; omega)
      replace x1 := (HB.out.cell (World.block_lt_of_cell? w _ x1)).trans x1
      have b1 := xat_bits l i
      obtain ⟨z, hz⟩ : ∃ z, l.getD i 0 = z := ⟨_, rfl⟩
      rw [hz] at x1 b1
      have hx9 := numS_nine (show xat l i ≤ 4611686018427387904 by have := xat_le l i; omega)
      have hxl := xat_le l i
      have hss : s.size ≤ 9 * i := by rw [← HS.out]; exact cat_size (fN l) 9 i (fun j _ => fN_size l j)
      have HX := Lib.hid (show cat (fN l) (i + 1) = s ++ numS (xat l i) by rw [← HS.out]; rfl)
      obtain ⟨x, hx⟩ : ∃ x, xat l i = x := ⟨_, rfl⟩
      rw [hx] at b1 hx9 hxl HX
      clear hz hx HS
      go_wp2_with fail
      refine (cnum_c x _ (by omega)).mono ?_
      rintro e w2 ⟨rfl, hd⟩
      have HB2 := below_to HB (Nat.le_refl _) hd
      clear hd HB
      have z1 : (9223372036854775807 < s.size + (numS x).size) = False := eq_false (by omega)
      go_wp2_with fail
      go_roundg k1
      case measure => exact Nat.lt_succ_self _
      case rel => exact ⟨i + 1, _, rfl, by simp, by omega, HX, HB2⟩
theorem walk (A : Option Addr) (n c : Nat) (l : List Int) (B : Option Addr) (m d : Nat) (t : List ByteArray) (w : World) (hn : l.length = n) (hc : n ≤ c) (hA : Kd.C (Kd.int .i64) w A n l) (hm : t.length = m) (hd : m ≤ d) (hB : Kd.C Kd.string w B m t) (hg : Hid (Laid w)) :
    Calls Tryd.prog 4 #[.slice A n c, .slice B m d] w fun e w' => e = .returned (.bool true) ∧ Below w.heap.size w w' := by
  by_cases h1 : n ≤ 60
  · by_cases h2 : m ≤ 60
    · exact few A B n c m d l t w hn hm h1 h2 hc hd (by rw [hn]; exact hA) (by rw [hm]; exact hB)
    · exact many A B n c m d w (.inr ⟨h1, by omega⟩)
  · exact many A B n c m d w (.inl (by omega))
end Go.Proofs.YtnpndfcghfoofaaDoor.RowCodeBack
