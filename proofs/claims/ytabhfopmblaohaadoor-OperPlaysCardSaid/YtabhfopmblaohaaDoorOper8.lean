/- A list of ops with one byte of its text changed (plain); texts as bytes; the document's ops in memory. -/
import Derived.Test.YtabhfopmblaohaaDoorOper7
import Derived.Lib.Hide
import Derived.Lib.ConvBytes
import Derived.Laws.BitsAllLaws
import Derived.Laws.BitsAllLaws
import Derived.Lib.ConvBytes
import Derived.Laws.BytesArg
set_option linter.unusedVariables false
set_option linter.unusedSimpArgs false
namespace Go.Proofs.YtabhfopmblaohaaDoor.Opr
open Go.RowKit Go.Proofs.YtabhfopmblaohaaDoor.QOperBack Go.Proofs.YtabhfopmblaohaaDoorW.PrintWords Go.Proofs.YtabhfopmblaohaaDoorW.PrintLast Go.Proofs.YtabhfopmblaohaaDoorW.PrintMore Go.Proofs.YtabhfopmblaohaaDoor.CdM Go.Proofs.YtabhfopmblaohaaDoor.Md Go.Proofs.YtabhfopmblaohaaDoor.Rdr
open Go.WideShapes
open Go.Proofs.YtabhfopmblaohaaDoor.Err (Laid IsErr code_nil code_c Chain at_some at_nil)
open Go.Proofs.YtabhfopmblaohaaDoor.AdQ (fourS numV fourS_size)
open Go.Proofs.YtabhfopmblaohaaDoor.AdM (sum bl bl_length bl_drop A B A_one A_lt B_lt)
theorem sum_set (s t : ByteArray) (c : Nat) (y : UInt8) (hc : c < s.size) (ht : t.data.toList = s.data.toList.set c y) (hy : y ≠ s.data.toList.getD c 0) : sum t ≠ sum s := by
  have hs := size_list s
  intro he
  have h1 : A (bl t) = A (bl s) := by
    unfold sum at he
    have a1 := A_lt (bl t)
    have a2 := A_lt (bl s)
    omega
  have key : ∀ (L : List UInt8) (z : UInt8), L = s.data.toList.set c z → (L.map fun c => ((c.toNat : Nat) : Int)) = (bl s).take c ++ ((z.toNat : Nat) : Int) :: (bl s).drop (c + 1) := by
    intro L z hL
    rw [hL, List.set_eq_take_append_cons_drop, if_pos (by omega), List.map_append, List.map_cons, List.map_take, List.map_drop]
    rfl
  have e1 : bl s = (bl s).take c ++ ((s.data.toList.getD c 0).toNat : Int) :: (bl s).drop (c + 1) := key _ _ (by
    rw [List.getD_eq_getElem?_getD, List.getElem?_eq_getElem (by omega)]
    exact (List.set_getElem_self (by omega)).symm)
  have e2 : bl t = (bl s).take c ++ (y.toNat : Int) :: (bl s).drop (c + 1) := key _ _ ht
  rw [e2] at h1
  have h1 := h1.trans (congrArg A e1)
  have l1 := y.toNat_lt
  have l2 := (s.data.toList.getD c 0).toNat_lt
  have := (A_one _ _ _ _ (by omega) (by omega)).1 h1
  apply hy
  apply UInt8.toNat_inj.1
  omega
theorem ext_list (s : ByteArray) (a b : Nat) : (s.extract a b).data.toList = (s.data.toList.drop a).take (b - a) := by
  rw [ByteArray.data_extract, Array.toList_extract, List.extract_eq_take_drop]
/-- with one byte of it changed, a text whose sum was right has a wrong one -/
theorem spoilt {t t2 : ByteArray} {q : Nat} {y : UInt8} (h : ¬ SumBad t) (hq : q < t.size) (ht : t2.data.toList = t.data.toList.set q y) (hy : y ≠ t.data.toList.getD q 0) : SumBad t2 := by
  have hz : t2.size = t.size := by rw [← size_list t2, ht, List.length_set, size_list]
  by_cases h5 : t.size < 5
  · exact absurd (.inl h5) h
  have hv : numV (t.extract (t.size - 4) t.size) = sum (t.extract 0 (t.size - 4)) := Classical.not_not.1 fun e => h (.inr e)
  refine .inr (fun hv2 => ?_)
  rw [hz] at hv2
  have e4 : (t.extract (t.size - 4) t.size).size = 4 := by rw [ext_size _ _ _ (by omega) (by omega)]; omega
  have e42 : (t2.extract (t.size - 4) t.size).size = 4 := by rw [ext_size _ _ _ (by omega) (by omega)]; omega
  by_cases hlt : q < t.size - 4
  · have ee : t2.extract (t.size - 4) t.size = t.extract (t.size - 4) t.size := by
      apply ByteArray.ext; apply Array.toList_inj.1
      rw [ext_list, ext_list, ht, List.drop_set_of_lt hlt]
    rw [ee, hv] at hv2
    refine sum_set (t.extract 0 (t.size - 4)) (t2.extract 0 (t.size - 4)) q y (by rw [ext_size _ _ _ (by omega) (by omega)]; omega) ?_ ?_ hv2.symm
    · rw [ext_list, ext_list, ht, List.drop_zero, List.drop_zero, List.take_set]
    · rw [ext_list, List.drop_zero, List.getD_eq_getElem?_getD, List.getElem?_take, if_pos (by omega), ← List.getD_eq_getElem?_getD]
      exact hy
  · have ee : t2.extract 0 (t.size - 4) = t.extract 0 (t.size - 4) := by
      apply ByteArray.ext; apply Array.toList_inj.1
      rw [ext_list, ext_list, ht, List.drop_zero, List.drop_zero, List.take_set_of_le (by omega)]
    rw [ee, ← hv] at hv2
    have e3 : t2.extract (t.size - 4) t.size = t.extract (t.size - 4) t.size := by rw [← four_num e42, ← four_num e4, hv2]
    have c1 := cut4 t2 (by omega)
    have c2 := cut4 t (by omega)
    rw [hz, ee, e3] at c1
    have : t2 = t := c1.trans c2.symm
    rw [this] at ht
    apply hy
    have hl : q < t.data.toList.length := by rw [size_list]; exact hq
    have h1 := congrArg (fun l : List UInt8 => l[q]?) ht
    simp only [List.getElem?_set_self hl] at h1
    rw [List.getD_eq_getElem?_getD, h1]; rfl
theorem same_byte {t t2 : ByteArray} {q : Nat} (hq : q < t.size) (ht : t2.data.toList = t.data.toList.set q (t.data.toList.getD q 0)) : t2 = t := by
  apply ByteArray.ext; apply Array.toList_inj.1
  have hl : q < t.data.toList.length := by rw [size_list]; exact hq
  rw [ht, List.getD_eq_getElem?_getD, List.getElem?_eq_getElem hl]
  exact List.set_getElem_self hl
theorem layAll_inj_len {l l' : List Op} (h : layAll l = layAll l') : l.length = l'.length := by
  have h1 := (laid_parts l).1
  rw [h, (laid_parts l').1] at h1
  exact (num_peel h1).1.symm
/-- what is laid tells what was -/
theorem layAll_inj {l l' : List Op} (hl : AllOk l) (hl' : AllOk l') (h : layAll l = layAll l') : l = l' := by
  have h1 := (laid_parts l).1
  rw [h, (laid_parts l').1] at h1
  obtain ⟨h2, h3⟩ := num_peel h1
  obtain ⟨m, hm, _⟩ := cat_peel l l' ⟨#[]⟩ ((allOk_iff l).1 hl) ((allOk_iff l').1 hl') (by omega) (by rw [app_emp]; exact h3.symm)
  have : m = [] := by
    have := congrArg List.length hm
    rw [List.length_append] at this
    exact List.eq_nil_of_length_eq_zero (by omega)
  rw [hm, this, List.append_nil]
theorem run_loadRat (w : World) (p : Addr) (o : Op) (h : OpAt w p o) : (Instr.loadAt 23 (.pointer (some p))).run Tryd.prog w = .ok (.agg o.a) w := by
  have hu := Tryd.underlying23
  have ha := Tryd.isAgg23
  have hs := Tryd.sizeOf23
  have c0 := h.c0
  have c1 := h.c1
  have c2 := h.c2
  have c3 := h.c3
  have c4 := h.c4
  go_simp
  rfl
theorem exec_loadRat {ρ : Operand → Value} {oo : Oper} {x : Operand} {W : World} {p : Addr} {o : Op} (ho : oo.op = .load 23 x) (hx : ρ x = .pointer (some p)) (hp : OpAt W p o) : (execOp ρ oo).run Tryd.prog W = .ok (.value (.agg o.a)) W := by
  unfold execOp; simp only [ho, hx, run_loadRat W p o hp, Sem.run_bind, Sem.run_pure, Result.andThen_ok]
theorem wl_loadRat {ops : Array Oper} {rest : List Oper} {oo : Oper} {a : Go.Act} {w : World} {Q : Exit → Go.Act → World → Prop} (p : Addr) (o : Op) (hp : OpAt w p o) (hgd : oo.guard = none) (p_ : Operand) (ho : oo.op = .load 23 p_) (hx : a.eval p_ = .pointer (some p))
    (h : wpList Tryd.prog ops Q rest (a.put oo.dst (.agg o.a)) w) : wpList Tryd.prog ops Q (oo :: rest) a w :=
  Kd.event_run hgd (exec_loadRat ho hx hp) h
theorem OpAt.on {w w' : World} {p : Addr} {o : Op} (h : OpAt w p o) (k : Below w.heap.size w w') : OpAt w' p o :=
  have hl := World.block_lt_of_cell? w p h.c0
  ⟨(k.cell hl).trans h.c0, (k.cell (p := ⟨p.block, p.off + 1, none⟩) hl).trans h.c1, (k.cell (p := ⟨p.block, p.off + 2, none⟩) hl).trans h.c2, (k.cell (p := ⟨p.block, p.off + 3, none⟩) hl).trans h.c3, (k.cell (p := ⟨p.block, p.off + 4, none⟩) hl).trans h.c4⟩
theorem bytes_of (s : ByteArray) (w : World) : ∃ (W : World) (c : Nat), (convert 9 49 (.string s)).run Tryd.prog w = .ok (.slice (some ⟨w.heap.size, 0, none⟩) s.size c) W ∧ Below w.heap.size w W ∧ W.heap.size = w.heap.size + 1 ∧
    (∀ i, i < s.size → W.cell? ⟨w.heap.size, i, none⟩ = some (.int .u8 (bt s i))) ∧ (∀ i, i < s.size → W.frozen? ⟨w.heap.size, i, none⟩ = false) := by
  refine ⟨Lib.bytesWorld w 5 s, _, Lib.run_convert_string_bytes w 9 49 5 s Tryd.underlying9 Tryd.underlying49 Tryd.underlying5, ?_, Lib.bytesWorld_size w 5 s, ?_, ?_⟩
  · exact ⟨rfl, rfl, rfl, by rw [Lib.bytesWorld_size]; omega, fun k hk => Lib.bytesWorld_at_old w 5 s k hk⟩
  · intro i hi
    rw [Lib.bytesWorld_cell w 5 s i hi]
    have h : (s.data.toList.getD i 0).toNat = (s[i]).toNat := by
      congr 1
      rw [List.getD_eq_getElem?_getD, List.getElem?_eq_getElem (by simpa using hi)]
      rfl
    have e : ((i : Int)).toNat = i := Int.toNat_natCast i
    unfold bt
    rw [dif_pos (by rw [e]; exact hi)]
    simp only [e]
    rw [h]
  · intro i hi
    unfold World.frozen?
    rw [Lib.bytesWorld_at_new]
    have : s.size ≤ (Lib.bytesCells w 5 s).size := by simp [Lib.bytesCells]
    simp
    omega
theorem bl_get (s : ByteArray) (i : Nat) (h : i < s.size) : (bl s).getD i 0 = bt s i := by
  have hd := bl_drop s i h
  have hl : i < (bl s).length := by rw [bl_length]; exact h
  rw [List.drop_eq_getElem_cons hl] at hd
  injection hd with h1 _
  rw [List.getD_eq_getElem?_getD, List.getElem?_eq_getElem hl]
  exact h1
theorem bl_range (s : ByteArray) : ∀ x ∈ bl s, 0 ≤ x ∧ x < 256 := by
  intro x hx
  simp only [bl, List.mem_map] at hx
  obtain ⟨c, _, rfl⟩ := hx
  have := c.toNat_lt
  omega
theorem bl_str (l : List Int) (h : ∀ x ∈ l, 0 ≤ x ∧ x < 256) : bl (strOfNums l) = l := by
  unfold bl
  rw [strOfNums_data, List.map_map]
  conv => rhs; rw [← List.map_id l]
  apply List.map_congr_left
  intro x hx
  have := h x hx
  simp
  omega
theorem bytes_back (s : ByteArray) (B c q : Nat) (y : Int) (W : World) (hq : q < s.size) (hcell : ∀ i, i < s.size → W.cell? ⟨B, i, none⟩ = some (.int .u8 (bt s i))) :
    (convert 49 9 (.slice (some ⟨B, 0, none⟩) s.size c)).run Tryd.prog (W.setCell ⟨B, q, none⟩ (.int .u8 y)) = .ok (.string (strOfNums ((bl s).set q y))) (W.setCell ⟨B, q, none⟩ (.int .u8 y)) := by
  refine run_convert_bytes_arg _ 49 5 Tryd.underlying49 Tryd.underlying5 B 0 s.size c _ (by rw [List.length_set, bl_length]) (fun i hi => ?_) 9 Tryd.underlying9
  rw [Nat.zero_add]
  by_cases e : i = q
  · subst e
    rw [World.cell?_setCell_same W _ _ (hcell i hi)]
    rw [List.getD_eq_getElem?_getD, List.getElem?_set_self (by rw [bl_length]; exact hi)]
    rfl
  · rw [World.cell?_setCell_other W _ _ _ (fun h => e (by injection h with _ h2 _; exact h2.symm)), hcell i hi]
    rw [List.getD_eq_getElem?_getD, List.getElem?_set_ne (fun h => e h.symm), ← List.getD_eq_getElem?_getD, bl_get s i hi]
theorem xor_range (b x : Int) (hb : 0 ≤ b ∧ b < 256) (hx : 0 ≤ x ∧ x < 256) : 0 ≤ Go.bits .xor .u8 b x ∧ Go.bits .xor .u8 b x < 256 := by
  rw [u8_xor b x hb.1 hb.2 hx.1 hx.2]
  have : b.toNat ^^^ x.toNat < 2 ^ 8 := Nat.xor_lt_two_pow (by omega) (by omega)
  omega
theorem xor_same (b x : Int) (hb : 0 ≤ b ∧ b < 256) (hx : 0 ≤ x ∧ x < 256) : Go.bits .xor .u8 b x = b ↔ x = 0 := by
  rw [u8_xor b x hb.1 hb.2 hx.1 hx.2]
  constructor
  · intro h
    have h1 : b.toNat ^^^ x.toNat = b.toNat := by omega
    have h2 : b.toNat ^^^ (b.toNat ^^^ x.toNat) = x.toNat := by rw [← Nat.xor_assoc, Nat.xor_self, Nat.zero_xor]
    rw [h1, Nat.xor_self] at h2
    omega
  · intro h
    subst h
    simp
    omega
section
variable {ops : Array Oper} {rest : List Oper} {oo : Oper} {a : Go.Act} {w : World} {Q : Exit → Go.Act → World → Prop}
theorem wl_toBytes (s : ByteArray) (hgd : oo.guard = none) (x : Operand) (ho : oo.op = .convert 9 49 x) (hx : a.eval x = .string s)
    (h : ∀ (W : World) (c : Nat), Below w.heap.size w W → (∀ i, i < s.size → W.cell? ⟨w.heap.size, i, none⟩ = some (.int .u8 (bt s i))) → (∀ i, i < s.size → W.frozen? ⟨w.heap.size, i, none⟩ = false) → wpList Tryd.prog ops Q rest (a.put oo.dst (.slice (some ⟨w.heap.size, 0, none⟩) s.size c)) W) : wpList Tryd.prog ops Q (oo :: rest) a w := by
  obtain ⟨W, c, hrun, h1, _, h2, h3⟩ := bytes_of s w
  exact Kd.event_run hgd (by unfold execOp; simp only [ho, hx, hrun, Sem.run_bind, Sem.run_pure, Result.andThen_ok]) (h W c h1 h2 h3)
theorem wl_ofBytes (v : Value) (t : ByteArray) (hrun : (convert 49 9 v).run Tryd.prog w = .ok (.string t) w) (hgd : oo.guard = none) (x : Operand) (ho : oo.op = .convert 49 9 x) (hx : a.eval x = v)
    (h : wpList Tryd.prog ops Q rest (a.put oo.dst (.string t)) w) : wpList Tryd.prog ops Q (oo :: rest) a w :=
  Kd.event_run hgd (by unfold execOp; simp only [ho, hx, hrun, Sem.run_bind, Sem.run_pure, Result.andThen_ok]) h
end
/-- a text with one byte put anew -/
theorem set_list (s : ByteArray) (q : Nat) (y : Int) : (strOfNums ((bl s).set q y)).data.toList = s.data.toList.set q (UInt8.ofNat y.toNat) := by
  have e : (strOfNums ((bl s).set q y)).data.toList = ((bl s).set q y).map (fun n : Int => UInt8.ofNat n.toNat) := by simp [strOfNums]
  rw [e, List.map_set]
  congr 1
  unfold bl
  rw [List.map_map]
  conv => rhs; rw [← List.map_id s.data.toList]
  apply List.map_congr_left
  intro c _
  simp
theorem bt_byte (s : ByteArray) (q : Nat) (hq : q < s.size) : bt s (q : Int) = (((s.data.toList.getD q 0).toNat : Nat) : Int) := by
  have hl : q < s.data.toList.length := by rw [size_list]; exact hq
  refine AdQ.bt_of s q _ ?_
  rw [List.getD_eq_getElem?_getD, List.getElem?_eq_getElem hl]; rfl
/-- a byte put anew: the text, by what it was put by -/
theorem xor_text (s : ByteArray) (q : Nat) (hq : q < s.size) (b : Int) (hb : 0 ≤ b ∧ b < 256) : (b = 0 → strOfNums ((bl s).set q (Go.bits .xor .u8 (bt s (q : Int)) b)) = s) ∧ (b ≠ 0 → ¬ SumBad s → SumBad (strOfNums ((bl s).set q (Go.bits .xor .u8 (bt s (q : Int)) b)))) := by
  have hr := bt_range s (q : Int)
  have hx := xor_range (bt s (q : Int)) b (by omega) hb
  have hs := xor_same (bt s (q : Int)) b (by omega) hb
  have hby := bt_byte s q hq
  obtain ⟨y, hy⟩ : ∃ y, Go.bits .xor .u8 (bt s (q : Int)) b = y := ⟨_, rfl⟩
  rw [hy] at hx hs ⊢
  have hl := set_list s q y
  constructor
  · intro h0
    refine same_byte hq ?_
    rw [hl, hs.2 h0, hby, Int.toNat_natCast]
    congr 1
    simp
  · intro h0 hok
    refine spoilt hok hq hl (fun e => h0 (hs.1 ?_))
    rw [hby, ← e, UInt8.toNat_ofNat']
    omega
end Go.Proofs.YtabhfopmblaohaaDoor.Opr
