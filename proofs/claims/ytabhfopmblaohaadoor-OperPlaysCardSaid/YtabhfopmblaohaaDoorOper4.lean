/- oper.Read at any bytes: the op that stands there, or an error. -/
import Derived.Test.YtabhfopmblaohaaDoorOper3
import Derived.Test.YtabhfopmblaohaaDoorReadStr
set_option linter.unusedVariables false
set_option linter.unusedSimpArgs false
namespace Go.Proofs.YtabhfopmblaohaaDoor.Opr
open Go.RowKit Go.Proofs.YtabhfopmblaohaaDoor.QOperBack Go.Proofs.YtabhfopmblaohaaDoorW.PrintWords Go.Proofs.YtabhfopmblaohaaDoorW.PrintLast Go.Proofs.YtabhfopmblaohaaDoorW.PrintMore Go.Proofs.YtabhfopmblaohaaDoor.CdM Go.Proofs.YtabhfopmblaohaaDoor.Md Go.Proofs.YtabhfopmblaohaaDoor.Rdr
open Go.WideShapes
open Go.Proofs.YtabhfopmblaohaaDoor.Err (Laid IsErr code_nil code_c Chain at_some at_nil)
/-- a text stands at a place of another -/
def On (s : ByteArray) (p : Nat) (t : ByteArray) : Prop := ∃ r, s.data.toList.drop p = t.data.toList ++ r
theorem size_list (t : ByteArray) : t.data.toList.length = t.size := by simp
theorem On.app {s : ByteArray} {p : Nat} {a b : ByteArray} : On s p (a ++ b) ↔ On s p a ∧ On s (p + a.size) b := by
  unfold On
  rw [ByteArray.data_append, Array.toList_append]
  constructor
  · rintro ⟨r, h⟩
    refine ⟨⟨b.data.toList ++ r, by rw [h, List.append_assoc]⟩, r, ?_⟩
    rw [← List.drop_drop, h, ← size_list a, List.append_assoc, List.drop_left]
  · rintro ⟨⟨r, h⟩, r2, h2⟩
    rw [← List.drop_drop, h, ← size_list a, List.drop_left] at h2
    exact ⟨r2, by rw [h, h2, List.append_assoc]⟩
theorem On.le {s : ByteArray} {p : Nat} {t : ByteArray} (h : On s p t) (ht : 1 ≤ t.size) : p + t.size ≤ s.size := by
  obtain ⟨r, h⟩ := h
  have := congrArg List.length h
  rw [List.length_drop, List.length_append, size_list, size_list] at this
  omega
theorem On.eq {s : ByteArray} {p : Nat} {a b : ByteArray} (h1 : On s p a) (h2 : On s p b) (hs : a.size = b.size) : a = b := by
  obtain ⟨r, h1⟩ := h1
  obtain ⟨r2, h2⟩ := h2
  rw [h1] at h2
  exact ByteArray.ext (Array.toList_inj.1 (List.append_inj h2 (by simpa using hs)).1)
theorem On.of_stands {s : ByteArray} {p x : Nat} (h : Stands s p x) : On s p (numS x) := by
  refine ⟨(s.data.toList.drop p).drop (num x).length, ?_⟩
  rw [digs_u8]
  have hl := stands_le h
  have e : (s.data.toList.drop p).take (num x).length = (num x).map UInt8.ofNat := by
    apply List.ext_getElem
    · simp; omega
    · intro j h1 h2
      have hj : j < (num x).length := by simpa using h2
      obtain ⟨hq, hv⟩ := h j hj
      rw [List.getElem_take, List.getElem_drop, List.getElem_map]
      have e1 : s.data.toList[p + j]'(by rw [size_list]; exact hq) = s[p + j]'hq := by rw [Array.getElem_toList]; rfl
      rw [e1]
      have hv2 : (s[p + j]'hq).toNat = (num x)[j]'hj := by
        rw [hv, List.getD_eq_getElem?_getD, List.getElem?_eq_getElem hj]; rfl
      have hb := num_byte x ((num x)[j]'hj) (List.getElem_mem hj)
      rw [← UInt8.toNat_inj, hv2, UInt8.toNat_ofNat']
      omega
  rw [← e, List.take_append_drop]
theorem On.stands {s : ByteArray} {p x : Nat} (h : On s p (numS x)) : Stands s p x := by
  have hle := On.le h (by rw [numS_size]; exact num_pos x)
  obtain ⟨r, h⟩ := h
  have e : s = (⟨(s.data.toList.take p).toArray⟩ : ByteArray) ++ numS x ++ ⟨r.toArray⟩ := by
    apply ByteArray.ext
    apply Array.toList_inj.1
    rw [ByteArray.data_append, ByteArray.data_append, Array.toList_append, Array.toList_append]
    show _ = s.data.toList.take p ++ (numS x).data.toList ++ r
    rw [List.append_assoc, ← h, List.take_append_drop]
  have hs := Rdr.stands_mid (⟨(s.data.toList.take p).toArray⟩ : ByteArray) ⟨r.toArray⟩ x
  rw [← e] at hs
  have ep : (⟨(s.data.toList.take p).toArray⟩ : ByteArray).size = p := by
    show (s.data.toList.take p).toArray.size = p
    rw [List.size_toArray, List.length_take, size_list]; omega
  rw [ep] at hs
  exact hs
theorem ext_size (s : ByteArray) (a b : Nat) (h : a ≤ b) (hb : b ≤ s.size) : (s.extract a b).size = b - a := by
  rw [ByteArray.size_extract]; omega
theorem On.ext (s : ByteArray) (a x : Nat) (hb : a + x ≤ s.size) : On s a (s.extract a (a + x)) := by
  refine ⟨(s.data.toList.drop a).drop x, ?_⟩
  rw [ByteArray.data_extract, Array.toList_extract, List.extract_eq_take_drop, show a + x - a = x by omega, List.take_append_drop]
/-- a text with its length ahead -/
theorem On.of_str {s : ByteArray} {p x : Nat} {most : Int} (h : StrTo s p most x) : On s p (strS (s.extract (p + (num x).length) (p + (num x).length + x))) ∧ (s.extract (p + (num x).length) (p + (num x).length + x)).size = x := by
  obtain ⟨_, _, h1, h2⟩ := h
  have hz : (s.extract (p + (num x).length) (p + (num x).length + x)).size = x := by rw [ext_size s _ _ (by omega) h2]; omega
  refine ⟨?_, hz⟩
  unfold strS
  rw [hz]
  refine On.app.2 ⟨On.of_stands h1, ?_⟩
  rw [numS_size]
  exact On.ext s _ x h2
theorem On.str {s : ByteArray} {p : Nat} {t : ByteArray} {most : Int} (h : On s p (strS t)) (h1 : t.size ≤ 4611686018427387904) (h2 : (t.size : Int) ≤ most) : StrTo s p most t.size := by
  unfold strS at h
  have hle := On.le h (by rw [ByteArray.size_append, numS_size]; have := num_pos t.size; omega)
  rw [ByteArray.size_append, numS_size] at hle
  obtain ⟨h3, h4⟩ := On.app.1 h
  exact ⟨h1, h2, h3.stands, by omega⟩
/- a number that was turned, turned back -/
def backN (n : Int) : Int := if n % 2 = 1 then -((n + 1) / 2) else n / 2
theorem turn_back {n : Int} (h : 0 ≤ n) : ((turnN (backN n) : Nat) : Int) = n := by
  unfold turnN backN
  split
  · rw [if_pos (by omega)]; omega
  · rw [if_neg (by omega)]; omega
theorem back_turn (n : Int) : backN ((turnN n : Nat) : Int) = n := by
  unfold turnN backN
  split <;> split <;> omega
theorem back_le {n : Int} (h : 0 ≤ n) (h1 : n ≤ 2147483648) : -1073741824 ≤ backN n ∧ backN n ≤ 1073741824 := by
  unfold backN
  split <;> omega
theorem back_c (n : Int) (w : World) (h0 : 0 ≤ n) (h1 : n ≤ 2147483648) : Calls Tryd.prog 33 #[.int .i64 n] w fun e w' => e = .returned (.int .i64 (backN n)) ∧ Below w.heap.size w w' := by
  refine (oper_back.calls n (backN n) w ?_).mono (fun e w' h => ⟨h.1, Drawn0.below h.2⟩)
  unfold oper_back.f backN wrap64
  rw [Int.tmod_eq_emod_of_nonneg h0]
  by_cases h : n % 2 = 1
  · rw [if_pos h, if_pos h]
    congr 1
    have e1 : (n + 1 + 9223372036854775808) % 18446744073709551616 - 9223372036854775808 = n + 1 := by omega
    have e2 : ((-(n + 1)) + 9223372036854775808) % 18446744073709551616 - 9223372036854775808 = -(n + 1) := by omega
    simp only [e1, e2]
    have e3 : Int.tdiv (-(n + 1)) 2 = -((n + 1) / 2) := by
      rw [Int.neg_tdiv, Int.tdiv_eq_ediv_of_nonneg (by omega)]
    rw [e3]; omega
  · rw [if_neg h, if_neg h, Int.tdiv_eq_ediv_of_nonneg h0]
    congr 1; omega
/- what Read's five calls answer, told together -/
structure Five (w : World) (s : ByteArray) (p : Nat) (n1 : Int) (e1 : Value) (q1 : Nat) (t2 : ByteArray) (e2 : Value) (q2 : Nat) (t3 : ByteArray) (e3 : Value) (q3 : Nat) (n4 : Int) (e4 : Value) (q4 : Nat) (t5 : ByteArray) (e5 : Value) (q5 : Nat) : Prop where
  a1 : NumAt w s p 6 n1 e1 q1
  a2 : StrAt w s q1 54 t2 e2 q2
  a3 : StrAt w s q2 54 t3 e3 q3
  a4 : NumAt w s q3 2147483648 n4 e4 q4
  a5 : StrAt w s q4 256 t5 e5 q5
theorem NumAt.nonneg {w : World} {s : ByteArray} {p : Nat} {most n : Int} {e : Value} {q : Nat} (h : NumAt w s p most n e q) : 0 ≤ n := by
  rcases h with ⟨y, _, rfl, _⟩ | ⟨_, rfl, _⟩
  · omega
  · omega
theorem NumAt.most {w : World} {s : ByteArray} {p : Nat} {most n : Int} {e : Value} {q : Nat} (h : NumAt w s p most n e q) (hm : 0 ≤ most) : n ≤ most := by
  rcases h with ⟨y, hy, rfl, _⟩ | ⟨_, rfl, _⟩
  · exact hy.2.1
  · exact hm
section
variable {w : World} {s : ByteArray} {p : Nat} {n1 : Int} {e1 : Value} {q1 : Nat} {t2 : ByteArray} {e2 : Value} {q2 : Nat} {t3 : ByteArray} {e3 : Value} {q3 : Nat} {n4 : Int} {e4 : Value} {q4 : Nat} {t5 : ByteArray} {e5 : Value} {q5 : Nat}
theorem num_on {most n : Int} {p q : Nat} (h : NumAt w s p most n .nilIface q) : On s p (numS n.toNat) ∧ q = p + (numS n.toNat).size ∧ 0 ≤ n ∧ n ≤ most := by
  rcases h with ⟨y, hy, rfl, _, hq⟩ | ⟨_, _, ⟨T, x, h, _⟩, _⟩
  · refine ⟨?_, ?_, by omega, hy.2.1⟩
    · rw [Int.toNat_natCast]; exact On.of_stands hy.2.2
    · rw [Int.toNat_natCast, numS_size]; exact hq
  · cases h
theorem str_on {most : Int} {t : ByteArray} {p q : Nat} (h : StrAt w s p most t .nilIface q) : On s p (strS t) ∧ q = p + (strS t).size ∧ (t.size : Int) ≤ most := by
  rcases h with ⟨x, hx, ht, _, hq⟩ | ⟨_, _, ⟨T, x, h, _⟩, _⟩
  · obtain ⟨h1, h2⟩ := On.of_str hx
    rw [← hq, ← ht] at h1 h2
    refine ⟨h1, ?_, by rw [h2]; exact hx.2.1⟩
    unfold strS
    rw [ByteArray.size_append, numS_size, h2]; omega
  · cases h
theorem num_nil {most n : Int} {e : Value} {p q y : Nat} (h : NumAt w s p most n e q) (ho : On s p (numS y)) (hy : y ≤ 4611686018427387904) (hm : (y : Int) ≤ most) : e = .nilIface ∧ q = p + (numS y).size := by
  rcases h with ⟨z, hz, rfl, rfl, rfl⟩ | ⟨hno, _⟩
  · obtain rfl := stands_one hz.2.2 ho.stands
    exact ⟨rfl, by rw [numS_size]⟩
  · exact absurd ho.stands (hno y hy hm)
theorem str_nil {most : Int} {e : Value} {t u : ByteArray} {p q : Nat} (h : StrAt w s p most t e q) (ho : On s p (strS u)) (hy : u.size ≤ 4611686018427387904) (hm : (u.size : Int) ≤ most) : e = .nilIface ∧ q = p + (strS u).size := by
  rcases h with ⟨z, hz, _, rfl, rfl⟩ | ⟨hno, _⟩
  · have := ho.str hy hm
    obtain rfl := stands_one hz.2.2.1 this.2.2.1
    refine ⟨rfl, ?_⟩
    unfold strS
    rw [ByteArray.size_append, numS_size]; omega
  · exact absurd (ho.str hy hm) (hno _)
/-- where an op stands, none of the five is an error -/
theorem Five.nil (h : Five w s p n1 e1 q1 t2 e2 q2 t3 e3 q3 n4 e4 q4 t5 e5 q5) (o : Op) (ho : o.Ok) (hs : On s p o.lay) : e1 = .nilIface ∧ e2 = .nilIface ∧ e3 = .nilIface ∧ e4 = .nilIface ∧ e5 = .nilIface := by
  unfold Op.lay at hs
  obtain ⟨h1, hs⟩ := On.app.1 hs
  obtain ⟨h2, hs⟩ := On.app.1 hs
  obtain ⟨h3, hs⟩ := On.app.1 hs
  obtain ⟨h4, h5⟩ := On.app.1 hs
  have := ho.d0; have := ho.d1; have := ho.p; have := ho.q; have := ho.s
  have := turnN_le ho.n0 ho.n1
  obtain ⟨rfl, rfl⟩ := num_nil h.a1 h1 (by omega) (by omega)
  obtain ⟨rfl, rfl⟩ := str_nil h.a2 h2 (by omega) (by omega)
  obtain ⟨rfl, rfl⟩ := str_nil h.a3 h3 (by omega) (by omega)
  obtain ⟨rfl, rfl⟩ := num_nil h.a4 h4 (by omega) (by omega)
  obtain ⟨rfl, rfl⟩ := str_nil h.a5 h5 (by omega) (by omega)
  exact ⟨rfl, rfl, rfl, rfl, rfl⟩
/-- where none is, an op stands -/
theorem Five.good (h : Five w s p n1 .nilIface q1 t2 .nilIface q2 t3 .nilIface q3 n4 .nilIface q4 t5 .nilIface q5) : (⟨n1, t2, t3, backN n4, t5⟩ : Op).Ok ∧ On s p (⟨n1, t2, t3, backN n4, t5⟩ : Op).lay ∧ q5 = p + (⟨n1, t2, t3, backN n4, t5⟩ : Op).lay.size := by
  obtain ⟨h1, rfl, g0, g1⟩ := num_on h.a1
  obtain ⟨h2, rfl, g2⟩ := str_on h.a2
  obtain ⟨h3, rfl, g3⟩ := str_on h.a3
  obtain ⟨h4, rfl, g4, g5⟩ := num_on h.a4
  obtain ⟨h5, rfl, g6⟩ := str_on h.a5
  obtain ⟨b0, b1⟩ := back_le g4 g5
  have et : turnN (backN n4) = n4.toNat := by have := turn_back g4; omega
  refine ⟨⟨g0, g1, by show t2.size ≤ 54; omega, by show t3.size ≤ 54; omega, by show t5.size ≤ 256; omega, b0, b1⟩, ?_, ?_⟩
  · unfold Op.lay
    simp only [et]
    exact On.app.2 ⟨h1, On.app.2 ⟨h2, On.app.2 ⟨h3, On.app.2 ⟨h4, h5⟩⟩⟩⟩
  · unfold Op.lay
    simp only [et, ByteArray.size_append]
    omega
def Ev (e : Value) : Prop := e = .nilIface ∨ ∃ T x, e = .iface T x
theorem num_ev {most n : Int} {e : Value} {p q : Nat} (h : NumAt w s p most n e q) : e = .nilIface ∨ ∃ T x, e = .iface T x ∧ IsErr w e 13 := by
  rcases h with ⟨y, _, _, h, _⟩ | ⟨_, _, ⟨T, x, h, h2⟩, _⟩
  · exact .inl h
  · exact .inr ⟨T, x, h, by rw [h]; rw [h] at h2; exact h2⟩
theorem str_ev {most : Int} {e : Value} {t : ByteArray} {p q : Nat} (h : StrAt w s p most t e q) : e = .nilIface ∨ ∃ T x, e = .iface T x ∧ IsErr w e 13 := by
  rcases h with ⟨y, _, _, h, _⟩ | ⟨_, _, ⟨T, x, h, h2⟩, _⟩
  · exact .inl h
  · exact .inr ⟨T, x, h, by rw [h]; rw [h] at h2; exact h2⟩
theorem Five.ev (h : Five w s p n1 e1 q1 t2 e2 q2 t3 e3 q3 n4 e4 q4 t5 e5 q5) (i : Nat) (hi : i < 5) : ([e1, e2, e3, e4, e5].getD i .nilIface = .nilIface) ∨ ∃ T x, [e1, e2, e3, e4, e5].getD i .nilIface = .iface T x ∧ IsErr w ([e1, e2, e3, e4, e5].getD i .nilIface) 13 := by
  match i, hi with
  | 0, _ => exact num_ev h.a1
  | 1, _ => exact str_ev h.a2
  | 2, _ => exact str_ev h.a3
  | 3, _ => exact num_ev h.a4
  | 4, _ => exact str_ev h.a5
theorem Five.bad (h : Five w s p n1 e1 q1 t2 e2 q2 t3 e3 q3 n4 e4 q4 t5 e5 q5) {i : Nat} (hi : i < 5) {T : TypeId} {x : Value} (hv : [e1, e2, e3, e4, e5].getD i .nilIface = .iface T x) : ∀ o : Op, o.Ok → ¬ On s p o.lay := by
  intro o ho hs
  obtain ⟨rfl, rfl, rfl, rfl, rfl⟩ := h.nil o ho hs
  match i, hi, hv with
  | 0, _, hv => cases hv
  | 1, _, hv => cases hv
  | 2, _, hv => cases hv
  | 3, _, hv => cases hv
  | 4, _, hv => cases hv
theorem Five.on {w' : World} (h : Five w s p n1 e1 q1 t2 e2 q2 t3 e3 q3 n4 e4 q4 t5 e5 q5) (hb : ∀ T x, IsErr w (.iface T x) 13 → IsErr w' (.iface T x) 13) : Five w' s p n1 e1 q1 t2 e2 q2 t3 e3 q3 n4 e4 q4 t5 e5 q5 :=
  ⟨h.a1.on (fun T x e hi => by rw [e] at hi ⊢; exact hb T x hi), h.a2.on (fun T x e hi => by rw [e] at hi ⊢; exact hb T x hi), h.a3.on (fun T x e hi => by rw [e] at hi ⊢; exact hb T x hi), h.a4.on (fun T x e hi => by rw [e] at hi ⊢; exact hb T x hi), h.a5.on (fun T x e hi => by rw [e] at hi ⊢; exact hb T x hi)⟩
end
/-- what Read answers -/
def OpRd (w : World) (s : ByteArray) (p : Nat) (o : Op) (e : Value) (q : Nat) : Prop :=
  (e = .nilIface ∧ o.Ok ∧ On s p o.lay ∧ q = p + o.lay.size) ∨ ((∃ T x, e = .iface T x ∧ IsErr w e 13) ∧ o = Op.zero ∧ ∀ o' : Op, o'.Ok → ¬ On s p o'.lay)
end Go.Proofs.YtabhfopmblaohaaDoor.Opr
