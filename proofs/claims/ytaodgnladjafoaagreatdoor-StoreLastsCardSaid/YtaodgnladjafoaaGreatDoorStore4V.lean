/- Words that the proof uses. -/
import Derived.Test.YtaodgnladjafoaaGreatDoorStore2V
set_option linter.unusedVariables false
set_option linter.unusedSimpArgs false
namespace Go.Proofs.YtaodgnladjafoaaGreatDoor.Sto
open Go.RowKit Go.Proofs.YtaodgnladjafoaaGreatDoorW.PrintWords Go.Proofs.YtaodgnladjafoaaGreatDoorW.PrintLast Go.Proofs.YtaodgnladjafoaaGreatDoorW.PrintMore Go.Proofs.YtaodgnladjafoaaGreatDoor.Md Go.Proofs.YtaodgnladjafoaaGreatDoor.Mni Go.Proofs.YtaodgnladjafoaaGreatDoor.QStoreLasts
open Go.Proofs.YtaodgnladjafoaaGreatDoor.Dk (Dsk IsD Ft)
open Go.Proofs.YtaodgnladjafoaaGreatDoor.Err (Laid IsErr code_nil code_c Chain at_some at_nil)
theorem eqRs_run (w : World) (x y : Rf) : (binOp .eql 36 (.agg (ra x)) (.agg (ra y))).run Tryz.prog w = .ok (.bool (sameR x y)) w := by
  unfold ra
  rw [run_eql_struct]
  have h := eqRf 9998 w x y
  unfold ra at h
  rw [h]
  rfl
theorem eqGRs (op : BinOp) (p q : Operand) (x y : Rf) (w : World) : (eqGuard op 36 p q (.agg (ra x)) (.agg (ra y))).run Tryz.prog w = .ok () w := run_eqGuard_agg w op 36 p q _ _ (by kernel_rfl)
theorem exec_eqRs {ρ : Operand → Value} {o : Oper} {p q : Operand} {W : World} {x y : Rf} (ho : o.op = .binOp .eql 36 p q 36) (hx : ρ p = .agg (ra x)) (hy : ρ q = .agg (ra y)) : (execOp ρ o).run Tryz.prog W = .ok (.value (.bool (sameR x y))) W := by
  unfold execOp; simp only [ho, hx, hy, eqGRs .eql p q x y W, eqRs_run W, Sem.run_bind, Sem.run_pure, Result.andThen_ok]
def z3 : List Value := [.int .i64 0, .int .i64 0, .int .u32 0]
theorem clear_run (w : World) (g k c' : Nat) (ty : TypeId) (cur : Array Value) (hg : w.heap[g]? = some (.cells cur 36 (0, 0))) (hk : k * 3 + 3 ≤ cur.size) :
    (Builtin.clear_ #[33] ty #[.slice (some ⟨g, k * 3, none⟩) 1 c']).run Tryz.prog w = .ok (.tuple #[]) (w.setRow g (cur.toList.take (k * 3) ++ z3 ++ cur.toList.drop (k * 3 + 3)).toArray) := by
  have hst := run_storeCells_at Tryz.prog g (k * 3) 36 z3 0 cur w hg hk (fun v hv => by
    simp only [z3, List.mem_cons, List.not_mem_nil, or_false] at hv
    rcases hv with rfl | rfl | rfl <;> rfl)
  have hz : ∀ u : World, (zeroValue 36).run Tryz.prog u = .ok (.agg #[.int .i64 0, .int .i64 0, .int .u32 0]) u := fun u => by kernel_rfl
  have hzc : (Builtin.zeroCells (Value.agg #[.int .i64 0, .int .i64 0, .int .u32 0]).cells 1).toList = z3 := by kernel_rfl
  have e3 : z3.length = 3 := rfl
  rw [Nat.add_zero, e3] at hst
  simp only [Builtin.clear_, Sem.run_bind, run_underlying Tryz.underlying33, Result.andThen_ok, List.getElem?_toArray, List.getElem?_cons_zero, hz, hzc, hst, Sem.run_pure]
section
variable {ops : Array Oper} {rest : List Oper} {oo : Oper} {a : Go.Act} {w : World} {Q : Exit → Go.Act → World → Prop}
theorem wl_eqRs (x y : Rf) (hgd : oo.guard = none) (p q : Operand) (ho : oo.op = .binOp .eql 36 p q 36) (hx : a.eval p = .agg (ra x)) (hy : a.eval q = .agg (ra y))
    (h : wpList Tryz.prog ops Q rest (a.put oo.dst (.bool (sameR x y))) w) : wpList Tryz.prog ops Q (oo :: rest) a w :=
  Kd.event_run hgd (exec_eqRs ho hx hy) h
theorem wl_clear (g k c' : Nat) (cur : Array Value) (hg : w.heap[g]? = some (.cells cur 36 (0, 0))) (hk : k * 3 + 3 ≤ cur.size) (hgd : oo.guard = none) (p : Operand) (ho : oo.op = .call { callee := .builtin .clear, args := #[p], argTypes := #[33] }) (hx : a.eval p = .slice (some ⟨g, k * 3, none⟩) 1 c')
    (h : wpList Tryz.prog ops Q rest (a.put oo.dst (.tuple #[])) (w.setRow g (cur.toList.take (k * 3) ++ z3 ++ cur.toList.drop (k * 3 + 3)).toArray)) : wpList Tryz.prog ops Q (oo :: rest) a w := by
  refine Kd.event_run hgd ?_ h
  have e1 : (#[p] : Array Operand).map a.eval = #[.slice (some ⟨g, k * 3, none⟩) 1 c'] := by simp [hx]
  have e2 : (execOp a.eval oo) = (do pure (.value (← Builtin.clear_ #[33] oo.type ((#[p] : Array Operand).map a.eval)))) := by
    unfold execOp; simp only [ho]; rfl
  rw [e2, e1]
  simp only [clear_run w g k c' _ cur hg hk, Sem.run_bind, Sem.run_pure, Result.andThen_ok]
end
theorem reps_cut {α : Type} {R : α → List Value → Prop} {size : Nat} {l : List α} {r : α} {cs : List Value} (h : Reps R size (l ++ [r]) cs) : Reps R size l (cs.take (l.length * size)) := by
  have h1 := h.1
  rw [List.length_append, List.length_singleton, Nat.add_mul, Nat.one_mul] at h1
  refine ⟨by rw [List.length_take]; omega, fun j p hj => ?_⟩
  have hl : j < l.length := (List.getElem?_eq_some_iff.1 hj).1
  have h2 := h.2 j p (by rw [List.getElem?_append_left hl]; exact hj)
  have h3 : j * size + size ≤ l.length * size := by rw [← Nat.succ_mul]; exact Nat.mul_le_mul_right _ hl
  have e : ((cs.take (l.length * size)).drop (j * size)).take size = (cs.drop (j * size)).take size := by
    rw [List.drop_take, List.take_take, Nat.min_eq_left (by omega)]
  rw [e]
  exact h2
theorem R_cut {w : World} {A : Option Addr} {n c : Nat} {l : List Rf} {r : Rf} (h : rk.R 36 w 0 (fun _ => True) (.slice A n c) (l ++ [r])) : ∃ g cur, A = some ⟨g, 0, none⟩ ∧ n = l.length + 1 ∧ n ≤ c ∧ w.heap[g]? = some (.cells cur 36 (0, 0)) ∧ cur.size = c * 3 ∧
    ∀ (w' : World) (cur' : Array Value), w'.heap[g]? = some (.cells cur' 36 (0, 0)) → cur'.size = cur.size → cur'.toList.take (l.length * 3) = cur.toList.take (l.length * 3) → rk.R 36 w' 0 (fun _ => True) (.slice (some ⟨g, 0, none⟩) l.length c) l := by
  obtain ⟨hok, inner, ho, hr⟩ := h
  rcases ho.2 with ⟨_, h0⟩ | ⟨g, cap, cur, hv, hb, hg, hn, hm, hs, ht⟩
  · simp at h0
  · injection hv with h1 h2 h3
    subst h1 h2 h3
    rw [List.length_append, List.length_singleton] at hn ht
    refine ⟨g, cur, rfl, by simp, by simpa using hn, hg, hs, fun w' cur' hw hz hk => ⟨fun _ _ => trivial, cur'.toList.take (l.length * 3), ⟨?_, .inr ⟨g, c, cur', rfl, Nat.zero_le _, hw, by omega, hm, by rw [hz]; exact hs, rfl⟩⟩, ?_⟩⟩
    · have e3 : rk.sz = 3 := rfl
      have e4 : cur'.toList.length = c * 3 := by rw [Array.length_toList, hz, hs]; rfl
      show (cur'.toList.take (l.length * 3)).length = l.length * 3
      rw [List.length_take, e4]
      omega
    · have e := reps_cut hr
      have e3 : rk.sz = 3 := rfl
      rw [← ht, e3, List.take_take, Nat.min_eq_left (by omega)] at e
      rw [hk]
      exact e.imp_ (fun _ _ hp => hp)
set_option maxHeartbeats 4000000 in
theorem same_c (x r : Rf) (B : Nat) (w : World) (h : Hid (w.heap[B]? = some (Obj.cells (ra r) 36 (0, 0)))) :
    Calls Tryz.prog 66 #[.agg (ra x), .pointer (some ⟨B, 0, none⟩)] w fun e w' => e = .returned (.bool (sameR x r)) ∧ Below w.heap.size w w' := by
  go_enter Tryz.func66, Tryz.ntmps66
  go_upto_region 1 with fail
  have hd1 : Below w.heap.size w (w.alloc (Obj.cells (ra x) 36 (0, 0))) := (Below.refl _ _).alloc (Nat.le_refl _) _
  have HK1 := Lib.hid (heap_alloc_last w (Obj.cells (ra x) 36 (0, 0)))
  have HB1 := Lib.hid hd1
  have HX1 := blk_to h hd1
  obtain ⟨X, hX⟩ : ∃ X, w.heap.size = X := ⟨_, rfl⟩
  rw [hX] at HK1
  simp only [hX]
  generalize (w.alloc (Obj.cells (ra x) 36 (0, 0))) = w1 at *
  clear hd1 hX h
  obtain ⟨b, hb⟩ : ∃ b, sameR x r = b := ⟨_, rfl⟩
  have HBb := Lib.hid hb
  go_wp2_with (first | (refine wl_loadR X x HK1.out rfl (.tmp 2) rfl rfl ?_) | (refine wl_loadR B r HX1.out rfl (.tmp 1) rfl rfl ?_) | (refine wl_eqRs x r rfl _ _ rfl rfl rfl ?_))
  go_ret
  exact ⟨by rw [HBb.out]; rfl, HB1.out⟩
set_option maxHeartbeats 8000000 in
set_option maxRecDepth 100000 in
theorem idx_c (ad : Addr) (c : Nat) (l : List Rf) (r : Rf) (B : Nat) (w : World) (hl : l.length ≤ 1000000) (hc : l.length + 1 ≤ c) (hno : ∀ x ∈ l, sameR x r = false) (hB : Hid (w.heap[B]? = some (Obj.cells (ra r) 36 (0, 0)))) (h : Hid (Kd.C rk w (some ad) (l.length + 1) (l ++ [r]))) :
    Calls Tryz.prog 88 #[.slice (some ad) (l.length + 1) c, .func (Fn.func 66) #[] #[.pointer (some ⟨B, 0, none⟩)]] w fun e w' => e = .returned (.int .i64 (l.length : Int)) ∧ Below w.heap.size w w' := by
  obtain ⟨k, hk⟩ : ∃ k, l.length = k := ⟨_, rfl⟩
  have h' := h.out
  rw [hk] at h' hl hc
  have HC := Lib.hid h'
  have HN := Lib.hid hk
  have HNo := Lib.hid hno
  rw [hk]
  clear h h' hk hno
  obtain ⟨n, hn⟩ : ∃ n, k + 1 = n := ⟨_, rfl⟩
  rw [hn] at HC hc
  have e0 : ((k + 1 : Nat) : Int) = (n : Int) := by omega
  rw [hn]
  have HNn := Lib.hid hn
  clear hn e0
  have HB0 := Lib.hid (Below.refl w.heap.size w)
  go_enter Tryz.func88, Tryz.ntmps88
  go_wp2_with fail
  go_loopg [8] n (fun kq v8 wr => ∃ (j : Nat), v8 = .int .i64 (j : Int) ∧ kq + j = n ∧ Hid (j ≤ k) ∧ Hid (Below w.heap.size w wr))
  case atStart => exact ⟨0, rfl, rfl, Lib.hid (Nat.zero_le _), HB0⟩
  case round =>
    clear HB0
    obtain ⟨j, rfl, hk, HJ, HB⟩ := hrel
    cases gk with
    | zero => exact absurd HJ.out (by have := HNn.out; omega)
    | succ k1 =>
      have hj : j < n := by omega
      have hjk := HJ.out
      have hjl : j < (l ++ [r]).length := by rw [List.length_append, List.length_singleton, HN.out]; omega
      have c1 : decide ((j : Int) < (n : Int)) = true := decide_eq_true (by omega)
      have c1b : decide (j < n) = true := decide_eq_true hj
      have p1 : (0 ≤ (j : Int)) = True := eq_true (by omega)
      have p2 : ((j : Int) < (n : Int)) = True := eq_true (by omega)
      have q5 : IntKind.i64.wrap ((j : Int) + 1) = (j : Int) + 1 := IntWalk.i64_in _ (by omega)
      obtain ⟨ad', ead, x0, x1, x2⟩ := at_T36 (Kd.C_below HC.out HB.out) (j : Int) (by omega) (by omega)
      cases ead
      have ex : rd_T36 (l ++ [r]) (j : Int) = (l ++ [r])[j] := by
        unfold rd_T36
        simp [List.getD_eq_getElem?_getD, List.getElem?_eq_getElem hjl]
      rw [ex] at x0 x1 x2
      simp only [Int.toNat_natCast] at x0 x1 x2
      obtain ⟨x, hx⟩ : ∃ x, (l ++ [r])[j] = x := ⟨_, rfl⟩
      rw [hx] at x0 x1 x2
      have HX0 := Lib.hid x0
      have HX1 := Lib.hid x1
      have HX2 := Lib.hid x2
      have HX := Lib.hid hx
      clear ex x0 x1 x2 hx
      have HBw := blk_to hB HB.out
      go_wp2_with (first | (refine wl_loadRf (ad.add (j * 3)) x HX0.out HX1.out HX2.out rfl _ rfl rfl ?_))
      refine (same_c x r B wr HBw).mono ?_
      rintro e w2 ⟨rfl, hd⟩
      have HB2 := below_to HB (Nat.le_refl _) hd
      clear hd HB HX0 HX1 HX2 HBw
      by_cases hg : j = k
      · have d1 : sameR x r = true := by
          have z := HX.out
          rw [List.getElem_append_right (by rw [HN.out]; omega)] at z
          simp at z
          rw [← z]; exact sameR_self r
        rw [d1]
        have HG := Lib.hid hg
        clear hg d1
        go_wp2_with fail
        go_ret
        exact ⟨by rw [HG.out]; rfl, HB2.out⟩
      · have d1 : sameR x r = false := by
          have z := HX.out
          rw [List.getElem_append_left (by rw [HN.out]; omega)] at z
          rw [← z]; exact HNo.out _ (List.getElem_mem _)
        rw [d1]
        have HJ1 := Lib.hid (show j + 1 ≤ k by omega)
        clear hg d1
        go_wp2_with fail
        go_roundg k1
        case measure => exact Nat.lt_succ_self _
        case rel => exact ⟨j + 1, by simp, by omega, HJ1, HB2⟩
set_option maxHeartbeats 8000000 in
set_option maxRecDepth 100000 in
theorem del_c (A : Option Addr) (n c : Nat) (l : List Rf) (r : Rf) (B : Nat) (w : World) (hl : l.length ≤ 1000000) (hno : ∀ x ∈ l, sameR x r = false) (hB : Hid (w.heap[B]? = some (Obj.cells (ra r) 36 (0, 0)))) (h : Hid (rk.R 36 w 0 (fun _ => True) (.slice A n c) (l ++ [r]))) :
    Calls Tryz.prog 65 #[.slice A n c, .func (Fn.func 66) #[] #[.pointer (some ⟨B, 0, none⟩)]] w fun e w' => ∃ u, e = .returned u ∧ u.ownBlock = (Value.slice A n c).ownBlock ∧ rk.R 36 w' 0 (fun _ => True) u l ∧ Mod (fun i => (Value.slice A n c).ownBlock = some i) w w' := by
  obtain ⟨g, cur, rfl, hn, hnc, hg, hs, hR⟩ := R_cut h.out
  have hC : Kd.C rk w (some ⟨g, 0, none⟩) (l.length + 1) (l ++ [r]) := by
    have z := (Kd.R_reads' h.out).2.2
    rw [List.length_append, List.length_singleton] at z
    exact z
  have hix := idx_c ⟨g, 0, none⟩ c l r B w hl (by omega) hno hB (Lib.hid hC)
  rw [← hn] at hix
  obtain ⟨k, hk⟩ : ∃ k, l.length = k := ⟨_, rfl⟩
  rw [hk] at hix hl hn hR
  have HIX := Lib.hid hix
  have HG := Lib.hid hg
  have HR := Lib.hid hR
  have hs3 : k * 3 + 3 ≤ cur.size := by omega
  have HNn := Lib.hid hn
  clear hix hg hR hC h hk hn hs
  go_enter Tryz.func65, Tryz.ntmps65
  go_wp2_with fail
  have hix := HIX.out
  refine Calls.mono hix ?_
  rintro e w2 ⟨rfl, hd⟩
  have HB2 := Lib.hid hd
  have HG2 := blk_to HG hd
  clear hd HIX hix HG
  have hn := HNn.out
  have t1 : ((k : Int) == -1) = false := beq_eq_false_iff_ne.2 (by omega)
  have q5 : IntKind.i64.wrap ((k : Int) + 1) = (n : Int) := by rw [IntWalk.i64_in _ (by omega)]; omega
  have t2 : decide ((n : Int) < (n : Int)) = false := decide_eq_false (by omega)
  have t2b : decide (n < n) = false := decide_eq_false (by omega)
  clear hn
  go_wp2_with fail
  go_loopg [5, 6] 0 (fun kq v5 v6 wr => v5 = .int .i64 (k : Int) ∧ v6 = .int .i64 (n : Int) ∧ wr = w2)
  case atStart => exact ⟨rfl, rfl, rfl⟩
  case round =>
    obtain ⟨rfl, rfl, rfl⟩ := hrel
    have hn := HNn.out
    have p0 : (0 ≤ (k : Int)) = True := eq_true (by omega)
    have p1 : ((k : Int) ≤ (n : Int)) = True := eq_true (by omega)
    have p2 : ((k : Int) ≤ (c : Int)) = True := eq_true (by omega)
    have p3 : ((n : Int) ≤ (c : Int)) = True := eq_true (by omega)
    have r0 : (k ≤ n) = True := eq_true (by omega)
    have r1 : (k ≤ c) = True := eq_true (by omega)
    have r2 : (n ≤ c) = True := eq_true (by omega)
    have s1 : n - k = 1 := by omega
    clear hn
    go_wp2_with (first | (refine wl_clear g k (c - k) cur HG2.out hs3 rfl _ rfl rfl ?_))
    go_ret
    have hz : (cur.toList.take (k * 3) ++ (z3 ++ cur.toList.drop (k * 3 + 3))).toArray.size = cur.size := by
      have e3 : z3.length = 3 := rfl
      simp only [List.size_toArray, List.length_append, List.length_take, List.length_drop, e3, Array.length_toList]
      omega
    have ht : (cur.toList.take (k * 3) ++ (z3 ++ cur.toList.drop (k * 3 + 3))).toArray.toList.take (k * 3) = cur.toList.take (k * 3) := by
      show (cur.toList.take (k * 3) ++ (z3 ++ cur.toList.drop (k * 3 + 3))).take (k * 3) = _
      have e4 : (cur.toList.take (k * 3)).length = k * 3 := by
        rw [List.length_take, Array.length_toList]; omega
      rw [List.take_append_of_le_length (by omega), List.take_of_length_le (by omega)]
    refine ⟨.slice (some ⟨g, 0, none⟩) k c, rfl, rfl, HR.out _ _ (setRow_heap _ g _ _ _ _ HG2.out) hz ht, ?_⟩
    exact ((Mod.refl _ w).on_below HB2.out (Nat.le_refl _)).tr ((mod_row _ g _).mono (fun i _ (e : i = g) => by rw [e]; rfl))
set_option maxHeartbeats 4000000 in
set_option maxRecDepth 100000 in
theorem without_c (Z R M H : Nat) (v p : Value) (o : Mni.Loc) (m : Man) (s : St) (l : List Rf) (r : Rf) (w : World) (h : Hid (IsS w ⟨Z, R, M, H, v, p⟩ o m s)) (hl : l.length ≤ 1000000) (hno : ∀ x ∈ l, sameR x r = false) (hput : s.put = l ++ [r]) :
    Calls Tryz.prog 40 #[.pointer (some ⟨Z, 0, none⟩), .agg (ra r)] w fun e w' => e = .returned (.tuple #[]) ∧ ∃ p', IsS w' ⟨Z, R, M, H, v, p'⟩ o m { s with put := l } ∧ Stp w ⟨Z, R, M, H, v, p⟩ w' ⟨Z, R, M, H, v, p'⟩ := by
  have hmf : ∀ (fn : Fn) (first cap : Array Value) (w : World), (Instr.makeFunc fn first cap).run Tryz.prog w = .ok (.func fn first cap) w := fun _ _ _ _ => rfl
  go_enter Tryz.func40, Tryz.ntmps40
  go_upto_region 1 with fail
  have hd1 : Below w.heap.size w (w.alloc (Obj.cells (ra r) 36 (0, 0))) := (Below.refl _ _).alloc (Nat.le_refl _) _
  have HK1 := Lib.hid (heap_alloc_last w (Obj.cells (ra r) 36 (0, 0)))
  have H1 := Lib.hid (h.out.on hd1)
  have HS1 := Lib.hid (Stp.of_below (q := ⟨Z, R, M, H, v, p⟩) hd1)
  obtain ⟨B, hB⟩ : ∃ B, w.heap.size = B := ⟨_, rfl⟩
  rw [hB] at HK1
  simp only [hB]
  generalize (w.alloc (Obj.cells (ra r) 36 (0, 0))) = w1 at *
  clear hd1 hB h
  have hR1 := H1.out.put
  have hP := Lib.hid hput
  rw [hput] at hR1
  obtain ⟨A, c, ep⟩ := Kd.R_slice hR1
  obtain rfl : p = .slice A (l ++ [r]).length c := ep
  obtain ⟨n, hn⟩ : ∃ n, (l ++ [r]).length = n := ⟨_, rfl⟩
  rw [hn] at hR1 H1 HS1
  try simp only [hn]
  have HR1 := Lib.hid hR1
  have HNn := Lib.hid hn
  have c9 := H1.out.cs.2.2.1
  clear hR1 hput hn
  go_wp2_with fail
  clear c9
  refine (del_c A n c l r B w1 hl hno HK1 HR1).mono ?_
  rintro e w2 ⟨u, rfl, hu, hR2, hm⟩
  obtain ⟨A2, c2, rfl⟩ := Kd.R_slice hR2
  obtain ⟨hI, hSt⟩ := H1.out.setPut (p' := .slice A2 l.length c2) hm hR2 (.inr (.inl hu))
  have hbz := hm.blk H1.out.blk H1.out.n3.1
  have c9 := Err.cell_of_blk hbz 9
  have f9 : w2.frozen? ⟨Z, 9, none⟩ = false := by simp [World.frozen?, hbz]
  have HI := Lib.hid hI
  have HSt := Lib.hid (HS1.out.trans hSt)
  clear hu hR2 hm hI hSt hbz
  go_wp2_with fail
  go_end0
  have z := HSt.out
  rw [← HNn.out] at z
  exact ⟨rfl, _, HI.out, z⟩
end Go.Proofs.YtaodgnladjafoaaGreatDoor.Sto
