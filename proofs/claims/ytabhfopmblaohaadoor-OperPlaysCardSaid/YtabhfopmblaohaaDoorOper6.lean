/- Many ops' bytes read (plain). -/
import Derived.Test.YtabhfopmblaohaaDoorOper5
set_option linter.unusedVariables false
set_option linter.unusedSimpArgs false
namespace Go.Proofs.YtabhfopmblaohaaDoor.Opr
open Go.RowKit Go.Proofs.YtabhfopmblaohaaDoor.QOperBack Go.Proofs.YtabhfopmblaohaaDoorW.PrintWords Go.Proofs.YtabhfopmblaohaaDoorW.PrintLast Go.Proofs.YtabhfopmblaohaaDoorW.PrintMore Go.Proofs.YtabhfopmblaohaaDoor.CdM Go.Proofs.YtabhfopmblaohaaDoor.Md Go.Proofs.YtabhfopmblaohaaDoor.Rdr
open Go.WideShapes
open Go.Proofs.YtabhfopmblaohaaDoor.Err (Laid IsErr code_nil code_c Chain at_some at_nil)
open Go.Proofs.YtabhfopmblaohaaDoor.AdQ (fourS numV fourS_size)
open Go.Proofs.YtabhfopmblaohaaDoor.AdM (sum bl A B A_lt B_lt)
def catL : List Op → ByteArray
  | [] => ⟨#[]⟩
  | o :: l => o.lay ++ catL l
theorem catL_snoc (l : List Op) (o : Op) : catL (l ++ [o]) = catL l ++ o.lay := by
  induction l with
  | nil => show o.lay ++ ⟨#[]⟩ = ⟨#[]⟩ ++ o.lay; rw [app_emp, emp_app]
  | cons a l ih => show a.lay ++ catL (l ++ [o]) = a.lay ++ catL l ++ o.lay; rw [ih, ByteArray.append_assoc]
theorem outs_take (l : List Op) (i : Nat) (hi : i ≤ l.length) : outs l i = numS l.length ++ catL (l.take i) := by
  induction i with
  | zero => rw [List.take_zero]; show numS l.length = numS l.length ++ ⟨#[]⟩; rw [app_emp]
  | succ i ih =>
    rw [outs_succ (by omega), ih (by omega), List.take_succ_eq_append_getElem (by omega), catL_snoc, ByteArray.append_assoc]
theorem outs_all (l : List Op) : outs l l.length = numS l.length ++ catL l := by rw [outs_take l _ (Nat.le_refl _), List.take_length]
theorem layAll_eq (l : List Op) : layAll l = numS l.length ++ catL l ++ fourS (sum (numS l.length ++ catL l)) := by unfold layAll; rw [outs_all]
theorem allOk_iff (l : List Op) : AllOk l ↔ ∀ o ∈ l, o.Ok := by
  constructor
  · intro h o ho
    obtain ⟨j, hj, rfl⟩ := List.getElem_of_mem ho
    exact h j hj
  · intro h j hj
    exact h _ (List.getElem_mem hj)
theorem AllOk.snoc {l : List Op} {o : Op} (h : AllOk l) (ho : o.Ok) : AllOk (l ++ [o]) := by
  rw [allOk_iff] at h ⊢
  intro x hx
  rcases List.mem_append.1 hx with h1 | h1
  · exact h x h1
  · rw [List.mem_singleton.1 h1]; exact ho
theorem cat_peel : ∀ (l l' : List Op) (r : ByteArray), (∀ o ∈ l, o.Ok) → (∀ o ∈ l', o.Ok) → l.length ≤ l'.length → catL l ++ r = catL l' → ∃ m, l' = l ++ m ∧ r = catL m
  | [], l', r, _, _, _, h => ⟨l', rfl, by rw [← h]; show r = ⟨#[]⟩ ++ r; rw [emp_app]⟩
  | o :: l, [], r, _, _, hl, _ => by simp at hl
  | o :: l, o' :: l', r, h1, h2, hl, h => by
    have h' : o.lay ++ (catL l ++ r) = o'.lay ++ catL l' := by rw [← ByteArray.append_assoc]; exact h
    obtain ⟨rfl, h3⟩ := lay_peel (h1 o (List.mem_cons_self ..)) (h2 o' (List.mem_cons_self ..)) h'
    obtain ⟨m, rfl, hm⟩ := cat_peel l l' r (fun x hx => h1 x (List.mem_cons_of_mem _ hx)) (fun x hx => h2 x (List.mem_cons_of_mem _ hx)) (by simpa using hl) h3
    exact ⟨m, rfl, hm⟩
/-- the number of four bytes, and back -/
theorem four_num {t : ByteArray} (h : t.size = 4) : fourS (numV t) = t := by
  have hl : t.data.toList.length = 4 := by rw [size_list]; exact h
  obtain ⟨a, b, c, d, he⟩ : ∃ a b c d, t.data.toList = [a, b, c, d] := by
    match t.data.toList, hl with
    | [a, b, c, d], _ => exact ⟨a, b, c, d, rfl⟩
  have h0 : bt t ((0 : Nat) : Int) = ((a.toNat : Nat) : Int) := AdQ.bt_of t 0 a (by rw [he]; rfl)
  have h1 : bt t ((1 : Nat) : Int) = ((b.toNat : Nat) : Int) := AdQ.bt_of t 1 b (by rw [he]; rfl)
  have h2 : bt t ((2 : Nat) : Int) = ((c.toNat : Nat) : Int) := AdQ.bt_of t 2 c (by rw [he]; rfl)
  have h3 : bt t ((3 : Nat) : Int) = ((d.toNat : Nat) : Int) := AdQ.bt_of t 3 d (by rw [he]; rfl)
  have ha := a.toNat_lt; have hb := b.toNat_lt; have hc := c.toNat_lt; have hd := d.toNat_lt
  have hn : numV t = ((a.toNat : Nat) : Int) * 16777216 + ((b.toNat : Nat) : Int) * 65536 + ((c.toNat : Nat) : Int) * 256 + ((d.toNat : Nat) : Int) := by
    unfold numV
    rw [← h0, ← h1, ← h2, ← h3]; rfl
  apply ByteArray.ext
  apply Array.toList_inj.1
  rw [he]
  unfold fourS strOfNums
  rw [hn]
  have u : ∀ x : UInt8, UInt8.ofNat (((x.toNat : Nat) : Int)).toNat = x := fun x => by simp
  have g0 : (((a.toNat : Nat) : Int) * 16777216 + ((b.toNat : Nat) : Int) * 65536 + ((c.toNat : Nat) : Int) * 256 + ((d.toNat : Nat) : Int)) / 16777216 % 256 = ((a.toNat : Nat) : Int) := by omega
  have g1 : (((a.toNat : Nat) : Int) * 16777216 + ((b.toNat : Nat) : Int) * 65536 + ((c.toNat : Nat) : Int) * 256 + ((d.toNat : Nat) : Int)) / 65536 % 256 = ((b.toNat : Nat) : Int) := by omega
  have g2 : (((a.toNat : Nat) : Int) * 16777216 + ((b.toNat : Nat) : Int) * 65536 + ((c.toNat : Nat) : Int) * 256 + ((d.toNat : Nat) : Int)) / 256 % 256 = ((c.toNat : Nat) : Int) := by omega
  have g3 : (((a.toNat : Nat) : Int) * 16777216 + ((b.toNat : Nat) : Int) * 65536 + ((c.toNat : Nat) : Int) * 256 + ((d.toNat : Nat) : Int)) % 256 = ((d.toNat : Nat) : Int) := by omega
  rw [g0, g1, g2, g3]
  simp only [List.map_cons, List.map_nil, u]
theorem sum_lt (s : ByteArray) : 0 ≤ sum s ∧ sum s < 4294967296 := by
  have a := A_lt (bl s)
  have b := B_lt (bl s)
  unfold sum
  omega
theorem num_four {x : Int} (h : 0 ≤ x ∧ x < 4294967296) : numV (fourS x) = x := by
  have e : (fourS x).data.toList = [UInt8.ofNat ((x / 16777216) % 256).toNat, UInt8.ofNat ((x / 65536) % 256).toNat, UInt8.ofNat ((x / 256) % 256).toNat, UInt8.ofNat (x % 256).toNat] := by
    unfold fourS strOfNums; simp
  have v : ∀ y : Int, 0 ≤ y → y < 256 → (((UInt8.ofNat y.toNat).toNat : Nat) : Int) = y := fun y h0 h1 => by rw [UInt8.toNat_ofNat']; omega
  have h0 := AdQ.bt_of (fourS x) 0 _ (by rw [e]; rfl)
  have h1 := AdQ.bt_of (fourS x) 1 _ (by rw [e]; rfl)
  have h2 := AdQ.bt_of (fourS x) 2 _ (by rw [e]; rfl)
  have h3 := AdQ.bt_of (fourS x) 3 _ (by rw [e]; rfl)
  rw [v _ (by omega) (by omega)] at h0 h1 h2 h3
  unfold numV
  have k0 : bt (fourS x) 0 = x / 16777216 % 256 := h0
  have k1 : bt (fourS x) 1 = x / 65536 % 256 := h1
  have k2 : bt (fourS x) 2 = x / 256 % 256 := h2
  have k3 : bt (fourS x) 3 = x % 256 := h3
  rw [k0, k1, k2, k3]; omega
/-- is the sum another one? -/
def SumBad (s : ByteArray) : Prop := s.size < 5 ∨ numV (s.extract (s.size - 4) s.size) ≠ sum (s.extract 0 (s.size - 4))
theorem cut4 (s : ByteArray) (h : 4 ≤ s.size) : s = s.extract 0 (s.size - 4) ++ s.extract (s.size - 4) s.size := by
  apply ByteArray.ext
  apply Array.toList_inj.1
  rw [ByteArray.data_append, Array.toList_append, ByteArray.data_extract, ByteArray.data_extract, Array.toList_extract, Array.toList_extract]
  simp only [List.extract_eq_take_drop, List.drop_zero, Nat.sub_zero]
  have hl : s.size - (s.size - 4) = (s.data.toList.drop (s.size - 4)).length := by simp
  rw [hl, List.take_length, List.take_append_drop]
/-- what is laid has the right sum, and its parts -/
theorem laid_parts (l : List Op) : (layAll l).extract 0 ((layAll l).size - 4) = numS l.length ++ catL l ∧ ¬ SumBad (layAll l) := by
  have hz := fourS_size (sum (numS l.length ++ catL l))
  have hs : (layAll l).size = (numS l.length ++ catL l).size + 4 := by rw [layAll_eq, ByteArray.size_append, hz]
  have hn : 1 ≤ (numS l.length ++ catL l).size := by rw [ByteArray.size_append, numS_size]; have := num_pos l.length; omega
  have hc := cut4 (layAll l) (by omega)
  have he : (layAll l).extract 0 ((layAll l).size - 4) ++ (layAll l).extract ((layAll l).size - 4) (layAll l).size = (numS l.length ++ catL l) ++ fourS (sum (numS l.length ++ catL l)) := by rw [← hc, layAll_eq]
  obtain ⟨h1, h2⟩ := app_peel (by rw [ext_size _ _ _ (by omega) (by omega), hs]; omega) he
  refine ⟨h1, ?_⟩
  rintro (h | h)
  · omega
  · rw [h1, h2] at h
    exact h (num_four (sum_lt _))
/-- what a right sum and right parts make -/
theorem laid_of {s : ByteArray} (h : ¬ SumBad s) {l : List Op} (hb : s.extract 0 (s.size - 4) = numS l.length ++ catL l) : s = layAll l := by
  unfold SumBad at h
  have h5 : 5 ≤ s.size := by
    rcases Nat.lt_or_ge s.size 5 with h1 | h1
    · exact absurd (.inl h1) h
    · exact h1
  have hv : numV (s.extract (s.size - 4) s.size) = sum (s.extract 0 (s.size - 4)) := Classical.not_not.1 fun e => h (.inr e)
  have hc := cut4 s (by omega)
  have h4 : (s.extract (s.size - 4) s.size).size = 4 := by rw [ext_size _ _ _ (by omega) (by omega)]; omega
  rw [layAll_eq, ← hb, ← hv, four_num h4]
  exact hc
theorem On.zero {b t : ByteArray} (h : On b 0 t) : ∃ r : ByteArray, b = t ++ r := by
  obtain ⟨r, h⟩ := h
  refine ⟨⟨r.toArray⟩, ByteArray.ext (Array.toList_inj.1 ?_)⟩
  rw [List.drop_zero] at h
  rw [h, ByteArray.data_append, Array.toList_append]
theorem On.of_eq {b t r : ByteArray} (h : b = t ++ r) : On b 0 t := ⟨r.data.toList, by rw [List.drop_zero, h, ByteArray.data_append, Array.toList_append]⟩
theorem On.at {a t r : ByteArray} : On (a ++ (t ++ r)) a.size t := by
  refine ⟨r.data.toList, ?_⟩
  rw [ByteArray.data_append, ByteArray.data_append, Array.toList_append, Array.toList_append, ← size_list a, List.drop_left]
/-- no ops stand there: the count isn't there -/
theorem no_count {b : ByteArray} (h : NoNumTo b 0 1000) (l : List Op) (hl : l.length ≤ 1000) : b ≠ numS l.length ++ catL l := fun e =>
  h l.length (by omega) (by omega) (On.of_eq e).stands
/-- an op isn't there -/
theorem no_op {b : ByteArray} {count : Nat} {l : List Op} (hon : On b 0 (numS count ++ catL l)) (hok : AllOk l) (hlt : l.length < count) (hno : ∀ o : Op, o.Ok → ¬ On b (numS count ++ catL l).size o.lay) (l' : List Op) (hok' : AllOk l') : b ≠ numS l'.length ++ catL l' := fun e => by
  obtain ⟨r, hr⟩ := hon.zero
  rw [hr, ByteArray.append_assoc] at e
  obtain ⟨hc, e⟩ := num_peel e
  obtain ⟨m, hm, rfl⟩ := cat_peel l l' r ((allOk_iff l).1 hok) ((allOk_iff l').1 hok') (by omega) e
  match m, hm with
  | [], hm => rw [List.append_nil] at hm; rw [hm] at hc; omega
  | o :: m, hm =>
    refine hno o ((allOk_iff l').1 hok' o (by rw [hm]; simp)) ?_
    rw [hr]
    exact On.at
/-- more is left -/
theorem no_more {b : ByteArray} {count : Nat} {l : List Op} (hon : On b 0 (numS count ++ catL l)) (hok : AllOk l) (heq : l.length = count) (hlt : (numS count ++ catL l).size < b.size) (l' : List Op) (hok' : AllOk l') : b ≠ numS l'.length ++ catL l' := fun e => by
  obtain ⟨r, hr⟩ := hon.zero
  have e0 := e
  rw [hr, ByteArray.append_assoc] at e
  obtain ⟨hc, e⟩ := num_peel e
  obtain ⟨m, hm, rfl⟩ := cat_peel l l' r ((allOk_iff l).1 hok) ((allOk_iff l').1 hok') (by omega) e
  have hz : m = [] := by
    have := congrArg List.length hm
    rw [List.length_append] at this
    exact List.eq_nil_of_length_eq_zero (by omega)
  subst hz
  rw [hr] at hlt
  have : (numS count ++ catL l ++ catL []).size = (numS count ++ catL l).size := by show (_ ++ (⟨#[]⟩ : ByteArray)).size = _; rw [app_emp]
  omega
theorem all_read {b : ByteArray} {count : Nat} {l : List Op} (hon : On b 0 (numS count ++ catL l)) (heq : l.length = count) (hle : b.size ≤ (numS count ++ catL l).size) : b = numS l.length ++ catL l := by
  obtain ⟨r, hr⟩ := hon.zero
  have hz : r.size = 0 := by rw [hr, ByteArray.size_append] at hle; omega
  have : r = ⟨#[]⟩ := by
    apply ByteArray.ext
    apply Array.toList_inj.1
    exact List.eq_nil_of_length_eq_zero (by rw [size_list]; exact hz)
  rw [hr, this, app_emp, heq]
theorem On.snoc {b : ByteArray} {count : Nat} {l : List Op} {o : Op} (h : On b 0 (numS count ++ catL l)) (ho : On b (numS count ++ catL l).size o.lay) : On b 0 (numS count ++ catL (l ++ [o])) := by
  rw [catL_snoc, ← ByteArray.append_assoc]
  exact On.app.2 ⟨h, by rw [Nat.zero_add]; exact ho⟩
/-- what ReadAll answers -/
def RdAll (w w' : World) (s : ByteArray) (v e : Value) : Prop :=
  (e = .nilIface ∧ ∃ l : List Op, Kd.R opk 30 w' w.heap.size (fun _ => True) v l ∧ AllOk l ∧ l.length ≤ 1000 ∧ s = layAll l) ∨
  (v = .slice none 0 0 ∧ (∀ l : List Op, AllOk l → l.length ≤ 1000 → s ≠ layAll l) ∧ ∃ T u, e = .iface T u ∧ ((SumBad s ∧ IsErr w' e 12) ∨ (¬ SumBad s ∧ IsErr w' e 13)))
theorem not_laid {s : ByteArray} (h : SumBad s) (l : List Op) : s ≠ layAll l := fun e => (laid_parts l).2 (by rw [← e]; exact h)
theorem not_parts {s : ByteArray} (h : ∀ l : List Op, AllOk l → l.length ≤ 1000 → s.extract 0 (s.size - 4) ≠ numS l.length ++ catL l) (l : List Op) (hok : AllOk l) (hl : l.length ≤ 1000) : s ≠ layAll l := fun e =>
  h l hok hl (by rw [e]; exact (laid_parts l).1)
end Go.Proofs.YtabhfopmblaohaaDoor.Opr
