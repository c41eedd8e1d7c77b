/- CodeSizes, the walk: the call returns true and leaves what there was as it was; for every two numbers. -/
import Derived.Test.YtnpndfcghfoofaaQCodeSizes
import Derived.Test.YtnpndfcghfoofaaCodeNum
import Derived.Lib.Hide
namespace Go.Proofs.Ytnpndfcghfoofaa.RowCodeSizes
open Go.RowKit Go.Proofs.Ytnpndfcghfoofaa.QCodeSizes Go.Proofs.YtnpndfcghfoofaaW.PrintWords Go.Proofs.YtnpndfcghfoofaaW.PrintLast Go.Proofs.YtnpndfcghfoofaaW.PrintMore Go.Proofs.Ytnpndfcghfoofaa.CdM
theorem bnd {α β : Type} {x : Option α} {f : α → Option β} {v : α} {r : Option β} (hx : x = some v) (h : f v = r) : x.bind f = r := by rw [hx]; exact h
theorem itp {α : Type} {c : Prop} {_ : Decidable c} {A B r : Option α} (hc : c) (h : A = r) : (if c then A else B) = r := by rw [if_pos hc]; exact h
theorem itn {α : Type} {c : Prop} {_ : Decidable c} {A B r : Option α} (hc : ¬ c) (h : B = r) : (if c then A else B) = r := by rw [if_neg hc]; exact h
theorem num_l : ∀ (n : Nat) (k : Nat) (acc : List Int), (num n).length ≤ k → acc.length + (num n).length ≤ 1000 → code_Num.l0 k (n : Int) acc = some (strOfNums (acc ++ digs n)) := by
  intro n
  induction n using Nat.strongRecOn with
  | _ n ih =>
    intro k acc hk hl
    have hp := num_pos n
    obtain ⟨k, rfl⟩ : ∃ m, k = m + 1 := ⟨k - 1, by omega⟩
    have c2 : acc.length < 140737488355328 := by omega
    by_cases h : n < 128
    · have c1 : ¬ (n : Int) ≥ 128 := by omega
      have e : (n : Int) % 256 = n := by omega
      have e2 : digs n = [(n : Int)] := by unfold digs; rw [num_small h]; rfl
      simp only [code_Num.l0]
      refine itn c1 (itp c2 ?_)
      rw [e, e2]
    · have c1 : (n : Int) ≥ 128 := by omega
      have hb := num_big h
      have hlen : (num n).length = (num (n / 128)).length + 1 := by rw [hb]; simp
      have e2 : digs n = ((n : Int) % 128 + 128) :: digs (n / 128) := by unfold digs; rw [hb]; simp
      have e3 : (n : Int) / 128 = ((n / 128 : Nat) : Int) := by omega
      simp only [code_Num.l0]
      refine itp c1 (itp c2 ?_)
      rw [digit_more, e3, ih (n / 128) (by omega) k _ (by omega) (by simp; omega), e2]
      simp
theorem num_at (n : Nat) (hn : n ≤ 4611686018427387904) (k : Nat) (hk : 11 ≤ k) : code_Num.f k (n : Int) = some (numS n) := by
  have h9 := numS_nine hn
  rw [numS_size] at h9
  obtain ⟨k, rfl⟩ : ∃ m, k = m + 1 := ⟨k - 1, by omega⟩
  have c1 : ¬ (n : Int) < 0 := by omega
  have c2 : ¬ (n : Int) > 4611686018427387904 := by omega
  have hd : decide ((n : Int) > 4611686018427387904) = false := decide_eq_false c2
  have c3 : ¬ (false = true) := by decide
  have hl := num_l n k [] (by omega) (by simp; omega)
  unfold code_Num.f
  refine itn c1 ?_
  rw [hd]
  simp only [code_Num.j0]
  exact itn c3 hl
theorem below_on {B : Nat} {w w1 w2 : World} (h : Hid (Below B w w1)) (hB : B ≤ w.heap.size) (k : Below w1.heap.size w1 w2) : Hid (Below B w w2) :=
  h.out.trans (k.mono (Nat.le_trans hB h.out.size))
theorem num_c (n : Nat) (hn : n ≤ 4611686018427387904) (w : World) : Calls Try.prog 14 #[.int .i64 n] w fun e w' => e = .returned (.string (numS n)) ∧ Below w.heap.size w w' :=
  code_Num.calls 11 _ _ w (num_at n hn 11 (by omega))
theorem num_a (x : Int) (s : ByteArray) (h0 : 0 ≤ x) (h1 : x < 4611686018427387904) (hs : numS x.toNat = s) (w : World) : Calls Try.prog 14 #[.int .i64 x] w fun e w' => e = .returned (.string s) ∧ Below w.heap.size w w' := by
  subst hs
  have h := num_c x.toNat (by omega) w
  rw [show ((x.toNat : Nat) : Int) = x by omega] at h
  exact h
theorem awake_at : shalelaw04_awake.f 11 = some true := by
  unfold shalelaw04_awake.f
  refine bnd (num_at 300 (by omega) 11 (by omega)) ?_
  have e : numS 300 = ⟨#[172, 2]⟩ := by
    have h : num 300 = [172, 2] := by rw [num_big (by omega), num_small (by omega)]
    unfold numS digs
    rw [h]
    rfl
  rw [e]
  decide +kernel
theorem awake_c (w : World) : Calls Try.prog 15 #[] w fun e w' => e = .returned (.bool true) ∧ Below w.heap.size w w' := shalelaw04_awake.calls 11 true w awake_at

set_option maxHeartbeats 2000000 in
set_option maxRecDepth 100000 in
theorem same (a b : Int) (x : Int) (s : ByteArray) (w : World) (ha : Go.bits .and .i64 a 4611686018427387903 = x) (hb : Go.bits .and .i64 b 4611686018427387903 = x) (h0 : 0 ≤ x) (h1 : x < 4611686018427387904) (hs : numS x.toNat = s) :
    Calls Try.prog 5 #[.int .i64 a, .int .i64 b] w fun e w' => e = .returned (.bool true) ∧ Below w.heap.size w w' := by
  have p1 := numS_pos x.toNat
  have p2 := numS_nine (n := x.toNat) (by omega)
  rw [hs] at p1 p2
  have c1 : decide ((s.size : Int) < 1) = false := decide_eq_false (by omega)
  have c2 : decide ((9 : Int) < (s.size : Int)) = false := decide_eq_false (by omega)
  have c3 : decide (s.size < 1) = false := decide_eq_false (by omega)
  have c4 : decide (9 < s.size) = false := decide_eq_false (by omega)
  have HS := Lib.hid hs
  clear hs p1 p2
  go_enter Try.func5, Try.ntmps5
  go_wp2_with fail
  refine (num_a x s h0 h1 HS.out _).mono ?_
  rintro e w1 ⟨rfl, hb1⟩
  have HB1 := Lib.hid hb1
  clear hb1
  go_wp2_with fail
  refine (num_a x s h0 h1 HS.out _).mono ?_
  rintro e w2 ⟨rfl, hb2⟩
  have HB2 := below_on HB1 (Nat.le_refl _) hb2
  clear hb2
  go_wp2_with fail
  refine (awake_c _).mono ?_
  rintro e w3 ⟨rfl, hb3⟩
  have HB3 := below_on HB2 (Nat.le_refl _) hb3
  clear hb3
  go_wp2_with fail
  go_ret
  exact ⟨rfl, HB3.out⟩
theorem list_ne {s t : ByteArray} (h : s ≠ t) : (s.toList == t.toList) = false ∧ (s.toList != t.toList) = true := by
  have e : s.toList ≠ t.toList := fun he => h (by
    rw [ByteArray.toList_eq, ByteArray.toList_eq] at he
    exact ByteArray.ext (Array.toList_inj.1 he))
  exact ⟨by simpa using e, by simpa using e⟩
set_option maxHeartbeats 2000000 in
set_option maxRecDepth 100000 in
/-- The second number is the greater one, and has more bytes. -/
theorem less (a b : Int) (x y : Int) (s t : ByteArray) (w : World) (ha : Go.bits .and .i64 a 4611686018427387903 = x) (hb : Go.bits .and .i64 b 4611686018427387903 = y) (h0 : 0 ≤ x) (hxy : x < y) (h1 : y < 4611686018427387904) (hs : numS x.toNat = s) (ht : numS y.toNat = t) (hl : s.size < t.size) :
    Calls Try.prog 5 #[.int .i64 a, .int .i64 b] w fun e w' => e = .returned (.bool true) ∧ Below w.heap.size w w' := by
  have p1 := numS_pos x.toNat
  have p2 := numS_nine (n := x.toNat) (by omega)
  have n1 := list_ne (s := s) (t := t) (fun h => by subst h; omega)
  have n2 := list_ne (s := t.extract 0 s.size) (t := s) (fun h => by
    subst hs ht
    have := numS_begin h
    omega)
  have n3 : (x == y) = false := beq_eq_false_iff_ne.2 (by omega)
  obtain ⟨n11, n12⟩ := n1
  obtain ⟨n21, n22⟩ := n2
  rw [hs] at p1 p2
  have c1 : decide ((s.size : Int) < 1) = false := decide_eq_false (by omega)
  have c2 : decide ((9 : Int) < (s.size : Int)) = false := decide_eq_false (by omega)
  have c3 : decide (s.size < 1) = false := decide_eq_false (by omega)
  have c4 : decide (9 < s.size) = false := decide_eq_false (by omega)
  have c5 : decide (t.size < s.size) = false := decide_eq_false (by omega)
  have c6 : decide (t.size ≤ s.size) = false := decide_eq_false (by omega)
  have c7 : decide (x ≤ y) = true := decide_eq_true (by omega)
  have z : s.size ≤ t.size := by omega
  have HS := Lib.hid hs
  have HT := Lib.hid ht
  clear hs ht p1 p2
  go_enter Try.func5, Try.ntmps5
  go_wp2_with fail
  refine (num_a x s h0 (by omega) HS.out _).mono ?_
  rintro e w1 ⟨rfl, hb1⟩
  have HB1 := Lib.hid hb1
  clear hb1
  go_wp2_with fail
  refine (num_a y t (by omega) h1 HT.out _).mono ?_
  rintro e w2 ⟨rfl, hb2⟩
  have HB2 := below_on HB1 (Nat.le_refl _) hb2
  clear hb2
  go_wp2_with fail
  refine (awake_c _).mono ?_
  rintro e w3 ⟨rfl, hb3⟩
  have HB3 := below_on HB2 (Nat.le_refl _) hb3
  clear hb3
  go_wp2_with fail
  go_ret
  exact ⟨rfl, HB3.out⟩
set_option maxHeartbeats 2000000 in
set_option maxRecDepth 100000 in
/-- The second number is the greater one, and has no more bytes. -/
theorem like (a b : Int) (x y : Int) (s t : ByteArray) (w : World) (ha : Go.bits .and .i64 a 4611686018427387903 = x) (hb : Go.bits .and .i64 b 4611686018427387903 = y) (h0 : 0 ≤ x) (hxy : x < y) (h1 : y < 4611686018427387904) (hs : numS x.toNat = s) (ht : numS y.toNat = t) (hl : s.size = t.size) :
    Calls Try.prog 5 #[.int .i64 a, .int .i64 b] w fun e w' => e = .returned (.bool true) ∧ Below w.heap.size w w' := by
  have p1 := numS_pos x.toNat
  have p2 := numS_nine (n := x.toNat) (by omega)
  have n1 := list_ne (s := s) (t := t) (fun h => by
    subst hs ht
    have := numS_inj h
    omega)
  have n2 := list_ne (s := t.extract 0 s.size) (t := s) (fun h => by
    subst hs ht
    have := numS_begin h
    omega)
  have n3 : (x == y) = false := beq_eq_false_iff_ne.2 (by omega)
  obtain ⟨n11, n12⟩ := n1
  obtain ⟨n21, n22⟩ := n2
  rw [hs] at p1 p2
  have c1 : decide ((s.size : Int) < 1) = false := decide_eq_false (by omega)
  have c2 : decide ((9 : Int) < (s.size : Int)) = false := decide_eq_false (by omega)
  have c3 : decide (s.size < 1) = false := decide_eq_false (by omega)
  have c4 : decide (9 < s.size) = false := decide_eq_false (by omega)
  have c5 : decide (t.size < s.size) = false := decide_eq_false (by omega)
  have c6 : decide (t.size ≤ s.size) = true := decide_eq_true (by omega)
  have c7 : decide (x ≤ y) = true := decide_eq_true (by omega)
  have hl' : t.size ≤ s.size := by omega
  have HL := Lib.hid hl
  clear hl
  have HS := Lib.hid hs
  have HT := Lib.hid ht
  clear hs ht p1 p2
  go_enter Try.func5, Try.ntmps5
  go_wp2_with fail
  refine (num_a x s h0 (by omega) HS.out _).mono ?_
  rintro e w1 ⟨rfl, hb1⟩
  have HB1 := Lib.hid hb1
  clear hb1
  go_wp2_with fail
  refine (num_a y t (by omega) h1 HT.out _).mono ?_
  rintro e w2 ⟨rfl, hb2⟩
  have HB2 := below_on HB1 (Nat.le_refl _) hb2
  clear hb2
  go_wp2_with fail
  refine (awake_c _).mono ?_
  rintro e w3 ⟨rfl, hb3⟩
  have HB3 := below_on HB2 (Nat.le_refl _) hb3
  clear hb3
  go_wp2_with fail
  go_ret
  exact ⟨rfl, HB3.out⟩
set_option maxHeartbeats 2000000 in
set_option maxRecDepth 100000 in
/-- The first number is the greater one, and has no fewer bytes. -/
theorem more (a b : Int) (x y : Int) (s t : ByteArray) (w : World) (ha : Go.bits .and .i64 a 4611686018427387903 = x) (hb : Go.bits .and .i64 b 4611686018427387903 = y) (h0 : 0 ≤ y) (hxy : y < x) (h1 : x < 4611686018427387904) (hs : numS x.toNat = s) (ht : numS y.toNat = t) (hl : t.size ≤ s.size) :
    Calls Try.prog 5 #[.int .i64 a, .int .i64 b] w fun e w' => e = .returned (.bool true) ∧ Below w.heap.size w w' := by
  have p1 := numS_pos x.toNat
  have p2 := numS_nine (n := x.toNat) (by omega)
  have n1 := list_ne (s := s) (t := t) (fun h => by
    subst hs ht
    have := numS_inj h
    omega)
  have n2 := list_ne (s := t.extract 0 s.size) (t := s) (fun h => by
    subst hs ht
    have := numS_begin h
    omega)
  have n3 : (x == y) = false := beq_eq_false_iff_ne.2 (by omega)
  obtain ⟨n11, n12⟩ := n1
  obtain ⟨n21, n22⟩ := n2
  rw [hs] at p1 p2
  have c1 : decide ((s.size : Int) < 1) = false := decide_eq_false (by omega)
  have c2 : decide ((9 : Int) < (s.size : Int)) = false := decide_eq_false (by omega)
  have c3 : decide (s.size < 1) = false := decide_eq_false (by omega)
  have c4 : decide (9 < s.size) = false := decide_eq_false (by omega)
  have c6 : decide (t.size ≤ s.size) = true := decide_eq_true (by omega)
  have c7 : decide (x ≤ y) = false := decide_eq_false (by omega)
  have HS := Lib.hid hs
  have HT := Lib.hid ht
  clear hs ht p1 p2
  go_enter Try.func5, Try.ntmps5
  go_wp2_with fail
  refine (num_a x s (by omega) h1 HS.out _).mono ?_
  rintro e w1 ⟨rfl, hb1⟩
  have HB1 := Lib.hid hb1
  clear hb1
  go_wp2_with fail
  refine (num_a y t h0 (by omega) HT.out _).mono ?_
  rintro e w2 ⟨rfl, hb2⟩
  have HB2 := below_on HB1 (Nat.le_refl _) hb2
  clear hb2
  go_wp2_with fail
  refine (awake_c _).mono ?_
  rintro e w3 ⟨rfl, hb3⟩
  have HB3 := below_on HB2 (Nat.le_refl _) hb3
  clear hb3
  go_wp2_with fail
  go_ret
  exact ⟨rfl, HB3.out⟩
theorem walk (a b : Int) (w : World) (_ha : (Lit.int .i64 a).wf = true) (_hb : (Lit.int .i64 b).wf = true) : Calls Try.prog 5 #[.int .i64 a, .int .i64 b] w fun e w' => e = .returned (.bool true) ∧ Below w.heap.size w w' := by
  have ea := and62 a
  have eb := and62 b
  by_cases h : a % 4611686018427387904 = b % 4611686018427387904
  · exact same a b _ _ w ea (by rw [eb, h]) (by omega) (by omega) rfl
  · by_cases hl : a % 4611686018427387904 < b % 4611686018427387904
    · have hm := numS_len (a := (a % 4611686018427387904).toNat) (b := (b % 4611686018427387904).toNat) (by omega)
      by_cases hs : (numS (a % 4611686018427387904).toNat).size < (numS (b % 4611686018427387904).toNat).size
      · exact less a b _ _ _ _ w ea eb (by omega) hl (by omega) rfl rfl hs
      · exact like a b _ _ _ _ w ea eb (by omega) hl (by omega) rfl rfl (by omega)
    · have hm := numS_len (a := (b % 4611686018427387904).toNat) (b := (a % 4611686018427387904).toNat) (by omega)
      exact more a b _ _ _ _ w ea eb (by omega) (by omega) (by omega) rfl rfl hm
end Go.Proofs.Ytnpndfcghfoofaa.RowCodeSizes
