/- Many ops in memory. -/
import Derived.Test.YtabhfopmblaohaaDoorOper1
import Derived.Test.YtabhfopmblaohaaDoorAdlerQ
import Derived.Test.YtabhfopmblaohaaDoorOpen
set_option linter.unusedVariables false
set_option linter.unusedSimpArgs false
namespace Go.Proofs.YtabhfopmblaohaaDoor.Opr
open Go.RowKit Go.Proofs.YtabhfopmblaohaaDoor.QOperBack Go.Proofs.YtabhfopmblaohaaDoorW.PrintWords Go.Proofs.YtabhfopmblaohaaDoorW.PrintLast Go.Proofs.YtabhfopmblaohaaDoorW.PrintMore Go.Proofs.YtabhfopmblaohaaDoor.CdM Go.Proofs.YtabhfopmblaohaaDoor.Md
open Go.WideShapes
open Go.Proofs.YtabhfopmblaohaaDoor.Err (Laid IsErr code_nil code_c Chain at_some at_nil)
/-- the cells of an op -/
def ocs (o : Op) : List Value := [.int .i64 o.d, .string o.p, .string o.q, .int .i64 o.n, .string o.s]
def opk : Kd Op where
  sz := 5
  E := []
  K := fun _ s cs => cs = ocs s
  M := fun _ _ _ s cs => cs = ocs s
  K_len := fun h => by rw [h]; rfl
  K_one := fun h u hu => by
    rw [h] at hu
    simp only [ocs, List.mem_cons] at hu
    rcases hu with rfl | rfl | rfl | rfl | rfl | h
    · rfl
    · rfl
    · rfl
    · rfl
    · rfl
    · cases h
  K_below := fun _ h => h
  K_of_M := fun h => h
  M_mono := fun _ h => h
  M_bound := fun h => h
  M_move := fun _ h => h
  M_lower := fun _ h => h
/-- where an op's five cells stand -/
structure OpAt (w : World) (p : Addr) (o : Op) : Prop where
  c0 : w.cell? p = some (.int .i64 o.d)
  c1 : w.cell? ⟨p.block, p.off + 1, none⟩ = some (.string o.p)
  c2 : w.cell? ⟨p.block, p.off + 2, none⟩ = some (.string o.q)
  c3 : w.cell? ⟨p.block, p.off + 3, none⟩ = some (.int .i64 o.n)
  c4 : w.cell? ⟨p.block, p.off + 4, none⟩ = some (.string o.s)
theorem op_at {w : World} {A : Option Addr} {n : Nat} {l : List Op} (h : Kd.C opk w A n l) (i : Nat) (hi : i < l.length) : ∃ ad, A = some ad ∧ OpAt w (ad.add (i * 5)) l[i] := by
  obtain ⟨h1, _, h3⟩ := h
  obtain ⟨ad, e, hx⟩ := h3 (by omega)
  obtain ⟨cs, g1, g2, g4⟩ := hx i l[i] (List.getElem?_eq_getElem hi)
  have g2' : cs = ocs l[i] := g2
  subst g2'
  have hB : ∀ k, (ad.add k).block = ad.block := fun k => by unfold Addr.add; split <;> rfl
  have hO : ∀ k, (ad.add k).off = ad.off + k := fun k => by unfold Addr.add; split <;> simp_all
  have hA : ∀ k, 0 < k → (⟨(ad.add (i * 5)).block, (ad.add (i * 5)).off + k, none⟩ : Addr) = ad.add (i * 5 + k) := fun k hk => by
    rw [hB, hO]; conv => rhs; unfold Addr.add
    rw [if_neg (by omega)]
    congr 1; omega
  refine ⟨ad, e, ⟨?_, ?_, ?_, ?_, ?_⟩⟩
  · have c := g4 0 _ rfl; simpa [opk] using c
  · rw [hA 1 (by omega)]; exact g4 1 _ rfl
  · rw [hA 2 (by omega)]; exact g4 2 _ rfl
  · rw [hA 3 (by omega)]; exact g4 3 _ rfl
  · rw [hA 4 (by omega)]; exact g4 4 _ rfl
theorem run_loadOat (w : World) (p : Addr) (o : Op) (h : OpAt w p o) : (Instr.loadAt 30 (.pointer (some p))).run Tryd.prog w = .ok (.agg o.a) w := by
  have hu := Tryd.underlying30
  have ha := Tryd.isAgg30
  have hs := Tryd.sizeOf30
  have c0 := h.c0
  have c1 := h.c1
  have c2 := h.c2
  have c3 := h.c3
  have c4 := h.c4
  go_simp
  rfl
theorem exec_loadOat {ρ : Operand → Value} {oo : Oper} {x : Operand} {W : World} {p : Addr} {o : Op} (ho : oo.op = .load 30 x) (hx : ρ x = .pointer (some p)) (hp : OpAt W p o) : (execOp ρ oo).run Tryd.prog W = .ok (.value (.agg o.a)) W := by
  unfold execOp; simp only [ho, hx, run_loadOat W p o hp, Sem.run_bind, Sem.run_pure, Result.andThen_ok]
theorem wl_loadOat {ops : Array Oper} {rest : List Oper} {oo : Oper} {a : Go.Act} {w : World} {Q : Exit → Go.Act → World → Prop} (p : Addr) (o : Op) (hp : OpAt w p o) (hgd : oo.guard = none) (p_ : Operand) (ho : oo.op = .load 30 p_) (hx : a.eval p_ = .pointer (some p))
    (h : wpList Tryd.prog ops Q rest (a.put oo.dst (.agg o.a)) w) : wpList Tryd.prog ops Q (oo :: rest) a w :=
  Kd.event_run hgd (exec_loadOat ho hx hp) h
/-- the bytes of the first so many, behind how many there are -/
def outs (l : List Op) : Nat → ByteArray
  | 0 => numS l.length
  | i + 1 => outs l i ++ (match l[i]? with | some o => o.lay | none => ⟨#[]⟩)
theorem outs_succ {l : List Op} {i : Nat} (hi : i < l.length) : outs l (i + 1) = outs l i ++ l[i].lay := by
  show outs l i ++ (match l[i]? with | some o => o.lay | none => ⟨#[]⟩) = _
  rw [List.getElem?_eq_getElem hi]
theorem outs_size {l : List Op} (hl : l.length ≤ 1000) (i : Nat) (hi : i ≤ l.length) (h : ∀ j (hj : j < l.length), j < i → l[j].Ok) : (outs l i).size ≤ 9 + 409 * i := by
  induction i with
  | zero => exact numS_nine (by omega)
  | succ i ih =>
    have h1 := ih (by omega) (fun j hj hji => h j hj (by omega))
    have h2 := Op.lay_size (h i (by omega) (by omega))
    rw [outs_succ (by omega), ByteArray.size_append]; omega
/-- many ops' bytes -/
def layAll (l : List Op) : ByteArray := outs l l.length ++ AdQ.fourS (AdM.sum (outs l l.length))
theorem two (a b : ByteArray) : (([a, b] : List ByteArray).map (·.data.toList)).flatten = (a ++ b).data.toList := by
  simp [ByteArray.data_append, Array.toList_append]
theorem joined2 (bk : Nat) (a b t : ByteArray) (w : World) (hc : Hid (w.heap[bk]? = some (Obj.cells #[.string a, .string b] 9 (0, 0)))) (ht : Hid (a ++ b = t)) (hl : t.size ≤ 1000000) :
    Calls Tryd.prog 22 #[.slice (some ⟨bk, 0, none⟩) 2 2] w fun ev w' => ev = .returned (.string t) ∧ Below w.heap.size w w' := by
  refine joined_c bk [a, b] w ?_ (Err.lt_of_block hc.out) (by simp) t (by rw [two, ht.out]) hl
  intro j x hj
  rw [Err.cell_of_blk hc.out, Nat.zero_add]
  match j, hj with
  | 0, h => simpa using h
  | 1, h => simpa using h
  | (j + 2), h => simp at h
theorem litS2 (a b : ByteArray) (W : World) : (Instr.buildSlice 73 2 #[(0, .string a), (1, .string b)]).run Tryd.prog W = .ok (.slice (some ⟨W.heap.size, 0, none⟩) 2 2) (W.alloc (.cells #[.string a, .string b] 9 (0, 0))) := by kernel_rfl
def AllOk (l : List Op) : Prop := ∀ j (hj : j < l.length), l[j].Ok
set_option maxHeartbeats 8000000 in
set_option maxRecDepth 100000 in
theorem layall_c (A : Option Addr) (n c : Nat) (l : List Op) (w : World) (hl : l.length = n) (h : Hid (Kd.C opk w A n l)) (hn : n ≤ 1000) (hc : n ≤ c) :
    Calls Tryd.prog 15 #[.slice A n c] w fun e w' => ((AllOk l ∧ e = .returned (.tuple #[.string (layAll l), .nilIface])) ∨ (¬ AllOk l ∧ ∃ T u, e = .returned (.tuple #[.string ⟨#[]⟩, .iface T u]) ∧ IsErr w' (.iface T u) 1)) ∧ Below w.heap.size w w' := by
  have c0 : decide ((n : Int) > 1000) = false := decide_eq_false (by omega)
  have c0b : decide (1000 < n) = false := decide_eq_false (by omega)
  go_enter Tryd.func15, Tryd.ntmps15
  go_wp2_with fail
  refine (num_t n _ (by omega)).mono ?_
  rintro e w1 ⟨rfl, hd⟩
  have HX1 := Lib.hid hd
  have HA1 := Lib.hid (Kd.C_below h.out hd)
  have H0 := Lib.hid (show numS n = outs l 0 from by show numS n = numS l.length; rw [hl])
  rw [H0.out]
  clear hd
  go_wp2_with fail
  go_loopg [4, 19] n (fun kq v0 v1 wr => ∃ (i : Nat), v0 = .string (outs l i) ∧ v1 = .int .i64 (i : Int) ∧ kq + i = n ∧ Hid (∀ j (hj : j < l.length), j < i → l[j].Ok) ∧ Hid (Below w.heap.size w wr) ∧ Hid (Kd.C opk wr A n l))
  case atStart => exact ⟨0, rfl, rfl, by omega, Lib.hid (fun j _ hj => absurd hj (by omega)), HX1, HA1⟩
  case round =>
    clear HX1 HA1 H0 h
    obtain ⟨i, rfl, rfl, hk, HOk, HX, HA⟩ := hrel
    cases gk with
    | zero =>
      have hin : i = n := by omega
      have c1 : decide ((i : Int) < (n : Int)) = false := decide_eq_false (by omega)
      have c1' : decide (i < n) = false := decide_eq_false (by omega)
      have hso : (outs l i).size ≤ 9 + 409 * i := outs_size (by omega) i (by omega) HOk.out
      have hil : i = l.length := by omega
      obtain ⟨O, hO⟩ : ∃ O, outs l i = O := ⟨_, rfl⟩
      have HO := Lib.hid (show outs l l.length = O from by rw [← hO, hil])
      have HAll := Lib.hid (show AllOk l from fun j hj => HOk.out j hj (by omega))
      rw [hO] at hso ⊢
      clear hO hil HOk hk
      go_wp2_with fail
      refine (AdQ.sum_c O _ (by omega)).mono ?_
      rintro e w3 ⟨rfl, hd⟩
      have HX3 := Lib.hid (HX.out.trans (hd.mono HX.out.size))
      clear hd
      go_wp2_with fail
      refine (AdQ.four_c _ _).mono ?_
      rintro e w4 ⟨rfl, hd⟩
      have HX4 := Lib.hid (HX3.out.trans (hd.mono HX3.out.size))
      clear hd
      go_wp2_with fail
      obtain ⟨F, hF⟩ : ∃ F, AdQ.fourS (AdM.sum O) = F := ⟨_, rfl⟩
      have hFs : F.size = 4 := by rw [← hF]; exact AdQ.fourS_size _
      have HF := Lib.hid (show O ++ F = layAll l from by unfold layAll; rw [HO.out, hF])
      (try rw [hF])
      clear hF
      have hb5 : Below w4.heap.size w4 (w4.alloc (Obj.cells #[.string O, .string F] 9 (0, 0))) := (Below.refl _ _).alloc (Nat.le_refl _) _
      have HP5 := Lib.hid (heap_alloc_last w4 (Obj.cells #[.string O, .string F] 9 (0, 0)))
      have HX5 := Lib.hid (HX4.out.trans (hb5.mono HX4.out.size))
      generalize (w4.alloc (Obj.cells #[.string O, .string F] 9 (0, 0))) = w5 at *
      clear hb5
      refine (joined2 w4.heap.size O F (layAll l) w5 HP5 HF (by rw [← HF.out, ByteArray.size_append]; omega)).mono ?_
      rintro e w6 ⟨rfl, hd⟩
      have HX6 := Lib.hid (HX5.out.trans (hd.mono HX5.out.size))
      clear hd
      go_wp2_with fail
      go_ret2
      exact ⟨.inl ⟨HAll.out, rfl⟩, HX6.out⟩
    | succ k1 =>
      have hin : i < n := by omega
      have hil : i < l.length := by omega
      have c1 : decide ((i : Int) < (n : Int)) = true := decide_eq_true (by omega)
      have c1' : decide (i < n) = true := decide_eq_true (by omega)
      have q5 : IntKind.i64.wrap ((i : Int) + 1) = (i : Int) + 1 := IntWalk.i64_in _ (by omega)
      have p1 : (0 ≤ (i : Int)) = True := eq_true (by omega)
      have p2 : ((i : Int) < (n : Int)) = True := eq_true (by omega)
      have HS := Lib.hid (outs_succ hil)
      have hso : (outs l i).size ≤ 9 + 409 * i := outs_size (by omega) i (by omega) HOk.out
      obtain ⟨ad, rfl, hat⟩ := op_at HA.out i hil
      obtain ⟨x, hx⟩ : ∃ x, l[i] = x := ⟨_, rfl⟩
      rw [hx] at hat HS
      have HAt := Lib.hid hat
      have HXe := Lib.hid hx
      obtain ⟨O, hO⟩ : ∃ O, outs l i = O := ⟨_, rfl⟩
      rw [hO] at hso HS
      rw [hO]
      clear hat hx hO
      go_wp2_with (first
        | (refine wl_loadOat (ad.add (i * 5)) x HAt.out rfl _ rfl rfl ?_)
        | (refine wl_allocO rfl rfl ?_)
        | (refine wl_storeOn Op.zero.a rfl x rfl _ _ rfl rfl rfl ?_)
        | (refine wl_loadO wr.heap.size x (heap_alloc_last _ _) rfl _ rfl rfl ?_))
      have hb2 : Below wr.heap.size wr (wr.alloc (Obj.cells x.a 30 (0, 0))) := (Below.refl _ _).alloc (Nat.le_refl _) _
      have HX2 := Lib.hid (HX.out.trans (hb2.mono HX.out.size))
      have HA2 := Lib.hid (Kd.C_below HA.out hb2)
      generalize (wr.alloc (Obj.cells x.a 30 (0, 0))) = w2 at *
      clear hb2 HX HA HAt
      by_cases hok : x.Ok
      · have HOkx := Lib.hid hok
        have hlx := Op.lay_size hok
        clear hok
        refine (lay_ok x _ HOkx).mono ?_
        rintro e w3 ⟨rfl, hd⟩
        have HX3 := Lib.hid (HX2.out.trans (hd.mono HX2.out.size))
        have HA3 := Lib.hid (Kd.C_below HA2.out hd)
        clear hd HX2 HA2
        obtain ⟨Y, hY⟩ : ∃ Y, x.lay = Y := ⟨_, rfl⟩
        rw [hY] at HS hlx ⊢
        clear hY
        have k5 : (9223372036854775807 < O.size + Y.size) = False := eq_false (by omega)
        go_wp2_with fail
        go_roundg k1
        case measure => exact Nat.lt_succ_self _
        case rel => exact ⟨i + 1, by rw [HS.out], by simp, by omega, Lib.hid (fun j hj hji => by
          by_cases e : j = i
          · subst e; rw [HXe.out]; exact HOkx.out
          · exact HOk.out j hj (by omega)), HX3, HA3⟩
      · have HNo := Lib.hid (Op.okB_false.2 hok)
        have HNa := Lib.hid (show ¬ AllOk l from fun h => hok (by rw [← HXe.out]; exact h i hil))
        clear hok
        refine (lay_no x _ HNo).mono ?_
        rintro e w3 ⟨⟨T, u, rfl, he⟩, hd⟩
        have HE := Lib.hid he
        have HX3 := Lib.hid (HX2.out.trans (hd.mono HX2.out.size))
        clear hd he HX2 HA2
        go_wp2_with fail
        go_ret2
        exact ⟨.inr ⟨HNa.out, T, u, rfl, HE.out⟩, HX3.out⟩
set_option maxHeartbeats 1000000 in
theorem layall_many (A : Option Addr) (n c : Nat) (w : World) (hn : 1000 < n) (hm : n ≤ 9223372036854775807) :
    Calls Tryd.prog 15 #[.slice A n c] w fun e w' => (∃ T u, e = .returned (.tuple #[.string ⟨#[]⟩, .iface T u]) ∧ IsErr w' (.iface T u) 15) ∧ Below w.heap.size w w' := by
  have c0 : decide ((n : Int) > 1000) = true := decide_eq_true (by omega)
  have c0b : decide (1000 < n) = true := decide_eq_true hn
  go_enter Tryd.func15, Tryd.ntmps15
  go_wp2_with fail
  refine (at_err _ _ 15 _).mono ?_
  rintro e w3 ⟨T, u, rfl, he, hd⟩
  have HE := Lib.hid he
  have HX := Lib.hid hd
  clear he hd
  go_wp2_with fail
  go_ret2
  exact ⟨⟨T, u, rfl, HE.out⟩, HX.out⟩
theorem lay_none : layAll [] = numS 0 ++ AdQ.fourS (AdM.sum (numS 0)) := rfl
set_option maxHeartbeats 1000000 in
theorem awake_c (w : World) : Calls Tryd.prog 8 #[] w fun e w' => e = .returned (.bool true) ∧ Below w.heap.size w w' := by
  have hs : (layAll []).size = 5 := by
    rw [lay_none, ByteArray.size_append, AdQ.fourS_size, numS_size, num_small (by decide)]
    rfl
  have HL := Lib.hid hs
  clear hs
  go_enter Tryd.func8, Tryd.ntmps8
  go_wp2_with fail
  refine (layall_c none 0 0 [] w rfl (Lib.hid (Kd.C_nil opk w)) (by omega) (by omega)).mono ?_
  rintro e w1 ⟨he, hd⟩
  obtain rfl : e = .returned (.tuple #[.string (layAll []), .nilIface]) := by
    rcases he with ⟨_, rfl⟩ | ⟨hn, _⟩
    · rfl
    · exact absurd (fun j hj => absurd hj (by simp)) hn
  have HX1 := Lib.hid hd
  have hs := HL.out
  obtain ⟨Y, hY⟩ : ∃ Y, layAll [] = Y := ⟨_, rfl⟩
  rw [hY] at hs ⊢
  clear hd he hY HL
  have c5 : decide ((Y.size : Int) = 5) = true := decide_eq_true (by omega)
  have c5b : ((Y.size : Int) == 5) = true := by rw [hs]; rfl
  go_wp2_with fail
  refine (code_nil _).mono ?_
  rintro e w2 ⟨rfl, hd⟩
  have HX2 := Lib.hid (HX1.out.trans (hd.mono HX1.out.size))
  clear hd HX1
  go_wp2_with fail
  go_ret
  exact ⟨rfl, HX2.out⟩
end Go.Proofs.YtabhfopmblaohaaDoor.Opr
