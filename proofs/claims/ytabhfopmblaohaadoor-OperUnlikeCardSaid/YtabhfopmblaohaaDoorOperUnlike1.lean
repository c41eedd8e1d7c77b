/- OperUnlike, the walk. -/
import Derived.Test.YtabhfopmblaohaaDoorOper3
set_option linter.unusedVariables false
set_option linter.unusedSimpArgs false
namespace Go.Proofs.YtabhfopmblaohaaDoor.Opr.RowOperUnlike
open Go.RowKit Go.Proofs.YtabhfopmblaohaaDoorW.PrintWords Go.Proofs.YtabhfopmblaohaaDoorW.PrintLast Go.Proofs.YtabhfopmblaohaaDoorW.PrintMore Go.Proofs.YtabhfopmblaohaaDoor.CdM Go.Proofs.YtabhfopmblaohaaDoor.Md Go.Proofs.YtabhfopmblaohaaDoor.Opr
open Go.Proofs.YtabhfopmblaohaaDoor.Err (Laid IsErr code_nil code_c Chain at_some at_nil)
/-- what is kept all along -/
structure Bs (W w : World) (B : Nat) (a b : Op) : Prop where
  a : w.heap[B]? = some (Obj.cells a.a 23 (0, 0))
  b : w.heap[B + 1]? = some (Obj.cells b.a 23 (0, 0))
  bel : Below W.heap.size W w
  laid : Laid w
theorem Bs.on {W w w' : World} {B : Nat} {a b : Op} (h : Bs W w B a b) (k : Below w.heap.size w w') : Bs W w' B a b :=
  ⟨(k.block B (Err.lt_of_block h.a)).trans h.a, (k.block (B + 1) (Err.lt_of_block h.b)).trans h.b, h.bel.trans (k.mono h.bel.size), h.laid.on k⟩
theorem Bs.start (W : World) (a b : Op) (hg : Laid W) : Bs W ((W.alloc (Obj.cells a.a 23 (0, 0))).alloc (Obj.cells b.a 23 (0, 0))) W.heap.size a b := by
  have h1 := heap_alloc_last W (Obj.cells a.a 23 (0, 0))
  have hb1 : Below W.heap.size W (W.alloc (Obj.cells a.a 23 (0, 0))) := (Below.refl _ _).alloc (Nat.le_refl _) _
  have hs : (W.alloc (Obj.cells a.a 23 (0, 0))).heap.size = W.heap.size + 1 := by simp
  have h2 := heap_alloc_last (W.alloc (Obj.cells a.a 23 (0, 0))) (Obj.cells b.a 23 (0, 0))
  have hb2 : Below (W.alloc (Obj.cells a.a 23 (0, 0))).heap.size (W.alloc (Obj.cells a.a 23 (0, 0))) ((W.alloc (Obj.cells a.a 23 (0, 0))).alloc (Obj.cells b.a 23 (0, 0))) := (Below.refl _ _).alloc (Nat.le_refl _) _
  rw [hs] at h2
  have hb := hb1.trans (hb2.mono hb1.size)
  exact ⟨(hb2.block _ (Err.lt_of_block h1)).trans h1, h2, hb, hg.on hb⟩
theorem few0 {o : Op} (h : o.fewB = false) : (if o.fewB = true then (1 : Int) else 0) = 0 := by rw [h]; rfl
theorem few1 {o : Op} (h : o.fewB = true) : (if o.fewB = true then (1 : Int) else 0) = 1 := by rw [h]; rfl
set_option maxHeartbeats 8000000 in
set_option maxRecDepth 100000 in
theorem no1 (a b : Op) (W : World) (h : Hid (a.fewB = false)) (hg : Hid (Laid W)) : Calls Tryd.prog 3 #[.agg a.a, .agg b.a] W fun e w' => e = .returned (.bool true) ∧ Below W.heap.size W w' := by
  go_enter Tryd.func3, Tryd.ntmps3
  go_wp2_with fail
  have HS1 := Lib.hid (Bs.start W a b hg.out)
  (try rw [show (W.alloc (Obj.cells a.a 23 (0, 0))).heap.size = W.heap.size + 1 by simp])
  obtain ⟨B, hB⟩ : ∃ B, W.heap.size = B := ⟨_, rfl⟩
  rw [hB] at HS1
  simp only [hB]
  generalize ((W.alloc (Obj.cells a.a 23 (0, 0))).alloc (Obj.cells b.a 23 (0, 0))) = w1 at *
  refine (awake_c _).mono ?_
  rintro e w2 ⟨rfl, hd⟩
  have HS2 := Lib.hid (HS1.out.on hd)
  clear hd HS1
  go_wp2_with (first | (refine wg_loadR B a HS2.out.a (by rfl) _ rfl rfl ?_))
  refine (few_c a 0 _ (Lib.hid (few0 h.out))).mono ?_
  rintro e w3 ⟨rfl, hd⟩
  have HS3 := Lib.hid (HS2.out.on hd)
  clear hd HS2
  go_wp2_with fail
  refine (awake_c _).mono ?_
  rintro e w4 ⟨rfl, hd⟩
  have HS4 := Lib.hid (HS3.out.on hd)
  clear hd HS3
  go_wp2_with fail
  go_ret
  have hS := HS4.out.bel
  exact ⟨rfl, hS⟩
set_option maxHeartbeats 8000000 in
set_option maxRecDepth 100000 in
theorem no2 (a b : Op) (W : World) (h : Hid (a.fewB = true)) (h2 : Hid (b.fewB = false)) (hg : Hid (Laid W)) : Calls Tryd.prog 3 #[.agg a.a, .agg b.a] W fun e w' => e = .returned (.bool true) ∧ Below W.heap.size W w' := by
  go_enter Tryd.func3, Tryd.ntmps3
  go_wp2_with fail
  have HS1 := Lib.hid (Bs.start W a b hg.out)
  (try rw [show (W.alloc (Obj.cells a.a 23 (0, 0))).heap.size = W.heap.size + 1 by simp])
  obtain ⟨B, hB⟩ : ∃ B, W.heap.size = B := ⟨_, rfl⟩
  rw [hB] at HS1
  simp only [hB]
  generalize ((W.alloc (Obj.cells a.a 23 (0, 0))).alloc (Obj.cells b.a 23 (0, 0))) = w1 at *
  refine (awake_c _).mono ?_
  rintro e w2 ⟨rfl, hd⟩
  have HS2 := Lib.hid (HS1.out.on hd)
  clear hd HS1
  go_wp2_with (first | (refine wg_loadR B a HS2.out.a (by rfl) _ rfl rfl ?_))
  refine (few_c a 1 _ (Lib.hid (few1 h.out))).mono ?_
  rintro e w3 ⟨rfl, hd⟩
  have HS3 := Lib.hid (HS2.out.on hd)
  clear hd HS2
  go_wp2_with (first | (refine wg_loadR (B + 1) b HS3.out.b (by rfl) _ rfl rfl ?_))
  refine (few_c b 0 _ (Lib.hid (few0 h2.out))).mono ?_
  rintro e w4 ⟨rfl, hd⟩
  have HS4 := Lib.hid (HS3.out.on hd)
  clear hd HS3
  go_wp2_with fail
  refine (awake_c _).mono ?_
  rintro e w5 ⟨rfl, hd⟩
  have HS5 := Lib.hid (HS4.out.on hd)
  clear hd HS4
  go_wp2_with fail
  go_ret
  have hS := HS5.out.bel
  exact ⟨rfl, hS⟩
set_option maxHeartbeats 8000000 in
set_option maxRecDepth 100000 in
theorem lay_11 (a b : Op) (W : World) (h : Hid (a.fewB = true)) (h2 : Hid (b.fewB = true)) (h3 : Hid a.Ok) (h4 : Hid b.Ok) (hg : Hid (Laid W)) : Calls Tryd.prog 3 #[.agg a.a, .agg b.a] W fun e w' => e = .returned (.bool true) ∧ Below W.heap.size W w' := by
  go_enter Tryd.func3, Tryd.ntmps3
  go_wp2_with fail
  have HS1 := Lib.hid (Bs.start W a b hg.out)
  (try rw [show (W.alloc (Obj.cells a.a 23 (0, 0))).heap.size = W.heap.size + 1 by simp])
  obtain ⟨B, hB⟩ : ∃ B, W.heap.size = B := ⟨_, rfl⟩
  rw [hB] at HS1
  simp only [hB]
  generalize ((W.alloc (Obj.cells a.a 23 (0, 0))).alloc (Obj.cells b.a 23 (0, 0))) = w1 at *
  refine (awake_c _).mono ?_
  rintro e w2 ⟨rfl, hd⟩
  have HS2 := Lib.hid (HS1.out.on hd)
  clear hd HS1
  go_wp2_with (first | (refine wg_loadR B a HS2.out.a (by rfl) _ rfl rfl ?_))
  refine (few_c a 1 _ (Lib.hid (few1 h.out))).mono ?_
  rintro e w3 ⟨rfl, hd⟩
  have HS3 := Lib.hid (HS2.out.on hd)
  clear hd HS2
  go_wp2_with (first | (refine wg_loadR (B + 1) b HS3.out.b (by rfl) _ rfl rfl ?_))
  refine (few_c b 1 _ (Lib.hid (few1 h2.out))).mono ?_
  rintro e w4 ⟨rfl, hd⟩
  have HS4 := Lib.hid (HS3.out.on hd)
  clear hd HS3
  go_wp2_with (first | (refine wl_loadR B a HS4.out.a rfl _ rfl rfl ?_))
  refine (of_c a _).mono ?_
  rintro e w5 ⟨rfl, hd⟩
  have HS5 := Lib.hid (HS4.out.on hd)
  clear hd HS4
  go_wp2_with fail
  have HLa := Lib.hid (Op.lay_size h3.out)
  refine (lay_ok a _ h3).mono ?_
  rintro e w6 ⟨rfl, hd⟩
  have HS6 := Lib.hid (HS5.out.on hd)
  clear hd HS5
  go_wp2_with (first | (refine wl_loadR (B + 1) b HS6.out.b rfl _ rfl rfl ?_))
  refine (of_c b _).mono ?_
  rintro e w7 ⟨rfl, hd⟩
  have HS7 := Lib.hid (HS6.out.on hd)
  clear hd HS6
  go_wp2_with fail
  refine (lay_ok b _ h4).mono ?_
  rintro e w8 ⟨rfl, hd⟩
  have HS8 := Lib.hid (HS7.out.on hd)
  clear hd HS7
  go_wp2_with fail
  obtain ⟨s, hs⟩ : ∃ s, a.lay = s := ⟨_, rfl⟩
  obtain ⟨t, ht⟩ : ∃ t, b.lay = t := ⟨_, rfl⟩
  have HSs := Lib.hid hs
  have HTt := Lib.hid ht
  rw [hs, ht]
  clear hs ht
  refine (code_nil _).mono ?_
  rintro e w9 ⟨rfl, hd⟩
  have HS9 := Lib.hid (HS8.out.on hd)
  clear hd HS8
  go_wp2_with fail
  by_cases hab : a = b
  · have hst : s = t := by rw [← HSs.out, ← HTt.out, hab]
    subst hst
    subst hab
    have hq := Op.beq_self a
    have hss := sl_self s
    refine (code_nil _).mono ?_
    rintro e w10 ⟨rfl, hd⟩
    have HS10 := Lib.hid (HS9.out.on hd)
    clear hd HS9
    go_wp2_with (first
      | (refine wl_loadR B a HS10.out.a rfl _ rfl rfl ?_)
      | (refine wl_loadR (B + 1) a HS10.out.b rfl _ rfl rfl ?_)
      | (refine wg_loadR B a HS10.out.a (by rfl) _ rfl rfl ?_)
      | (refine wg_loadR (B + 1) a HS10.out.b (by rfl) _ rfl rfl ?_)
      | (refine wl_eqOpR a a true rfl _ _ rfl rfl rfl hq ?_)
      | (refine wg_eqOpR a a true (by rfl) _ _ rfl rfl rfl hq ?_))
    go_ret
    have hS := HS10.out.bel
    exact ⟨rfl, hS⟩
  · have hst : s ≠ t := fun e => hab (lay_inj h3.out h4.out (by rw [HSs.out, HTt.out, e]))
    have hq := Op.beq_ne hab
    have hss := sl_ne hst
    have hss2 : ¬ s.toList = t.toList := fun e => hst ((sl_iff' _ _).1 e)
    have HSZ := Lib.hid (show s.size ≤ 409 ∧ t.size ≤ 409 from ⟨by rw [← HSs.out]; exact Op.lay_size h3.out, by rw [← HTt.out]; exact Op.lay_size h4.out⟩)
    have HEX := Lib.hid (show s.size ≤ t.size → t.extract 0 s.size ≠ s from fun hle e => hab (lay_head h3.out h4.out (by rw [HSs.out, HTt.out]; exact hle) (by rw [HSs.out, HTt.out]; exact e)))
    clear hst
    by_cases hgt : t.size < s.size
    · have g0 : decide ((s.size : Int) > (t.size : Int)) = true := decide_eq_true (by omega)
      have g1 : decide (t.size < s.size) = true := decide_eq_true hgt
      refine (code_nil _).mono ?_
      rintro e w10 ⟨rfl, hd⟩
      have HS10 := Lib.hid (HS9.out.on hd)
      clear hd HS9
      go_wp2_with (first
        | (refine wl_loadR B a HS10.out.a rfl _ rfl rfl ?_)
        | (refine wl_loadR (B + 1) b HS10.out.b rfl _ rfl rfl ?_)
        | (refine wg_loadR B a HS10.out.a (by rfl) _ rfl rfl ?_)
        | (refine wg_loadR (B + 1) b HS10.out.b (by rfl) _ rfl rfl ?_)
        | (refine wl_eqOpR a b false rfl _ _ rfl rfl rfl hq ?_)
        | (refine wg_eqOpR a b false (by rfl) _ _ rfl rfl rfl hq ?_))
      go_ret
      have hS := HS10.out.bel
      exact ⟨rfl, hS⟩
    · have g0 : decide ((s.size : Int) > (t.size : Int)) = false := decide_eq_false (by omega)
      have g1 : decide (t.size < s.size) = false := decide_eq_false hgt
      have p0 : (0 ≤ (s.size : Int)) = True := eq_true (by omega)
      have p1 : ((s.size : Int) ≤ (t.size : Int)) = True := eq_true (by omega)
      have p2 : (s.size ≤ t.size) = True := eq_true (by omega)
      have hx := sl_ne (HEX.out (by omega))
      have hx2 : ((t.extract 0 s.size).toList != s.toList) = true := by rw [bne, hx]; rfl
      refine (code_nil _).mono ?_
      rintro e w10 ⟨rfl, hd⟩
      have HS10 := Lib.hid (HS9.out.on hd)
      clear hd HS9
      go_wp2_with (first
        | (refine wl_loadR B a HS10.out.a rfl _ rfl rfl ?_)
        | (refine wl_loadR (B + 1) b HS10.out.b rfl _ rfl rfl ?_)
        | (refine wg_loadR B a HS10.out.a (by rfl) _ rfl rfl ?_)
        | (refine wg_loadR (B + 1) b HS10.out.b (by rfl) _ rfl rfl ?_)
        | (refine wl_eqOpR a b false rfl _ _ rfl rfl rfl hq ?_)
        | (refine wg_eqOpR a b false (by rfl) _ _ rfl rfl rfl hq ?_))
      go_ret
      have hS := HS10.out.bel
      exact ⟨rfl, hS⟩
set_option maxHeartbeats 8000000 in
set_option maxRecDepth 100000 in
theorem lay_10 (a b : Op) (W : World) (h : Hid (a.fewB = true)) (h2 : Hid (b.fewB = true)) (h3 : Hid a.Ok) (h4 : Hid (b.okB = false)) (hg : Hid (Laid W)) : Calls Tryd.prog 3 #[.agg a.a, .agg b.a] W fun e w' => e = .returned (.bool true) ∧ Below W.heap.size W w' := by
  go_enter Tryd.func3, Tryd.ntmps3
  go_wp2_with fail
  have HS1 := Lib.hid (Bs.start W a b hg.out)
  (try rw [show (W.alloc (Obj.cells a.a 23 (0, 0))).heap.size = W.heap.size + 1 by simp])
  obtain ⟨B, hB⟩ : ∃ B, W.heap.size = B := ⟨_, rfl⟩
  rw [hB] at HS1
  simp only [hB]
  generalize ((W.alloc (Obj.cells a.a 23 (0, 0))).alloc (Obj.cells b.a 23 (0, 0))) = w1 at *
  refine (awake_c _).mono ?_
  rintro e w2 ⟨rfl, hd⟩
  have HS2 := Lib.hid (HS1.out.on hd)
  clear hd HS1
  go_wp2_with (first | (refine wg_loadR B a HS2.out.a (by rfl) _ rfl rfl ?_))
  refine (few_c a 1 _ (Lib.hid (few1 h.out))).mono ?_
  rintro e w3 ⟨rfl, hd⟩
  have HS3 := Lib.hid (HS2.out.on hd)
  clear hd HS2
  go_wp2_with (first | (refine wg_loadR (B + 1) b HS3.out.b (by rfl) _ rfl rfl ?_))
  refine (few_c b 1 _ (Lib.hid (few1 h2.out))).mono ?_
  rintro e w4 ⟨rfl, hd⟩
  have HS4 := Lib.hid (HS3.out.on hd)
  clear hd HS3
  go_wp2_with (first | (refine wl_loadR B a HS4.out.a rfl _ rfl rfl ?_))
  refine (of_c a _).mono ?_
  rintro e w5 ⟨rfl, hd⟩
  have HS5 := Lib.hid (HS4.out.on hd)
  clear hd HS4
  go_wp2_with fail
  have HLa := Lib.hid (Op.lay_size h3.out)
  refine (lay_ok a _ h3).mono ?_
  rintro e w6 ⟨rfl, hd⟩
  have HS6 := Lib.hid (HS5.out.on hd)
  clear hd HS5
  go_wp2_with (first | (refine wl_loadR (B + 1) b HS6.out.b rfl _ rfl rfl ?_))
  refine (of_c b _).mono ?_
  rintro e w7 ⟨rfl, hd⟩
  have HS7 := Lib.hid (HS6.out.on hd)
  clear hd HS6
  go_wp2_with fail
  refine (lay_no b _ h4).mono ?_
  rintro e w8 ⟨⟨Tb, ub, rfl, he⟩, hd⟩
  have HS8 := Lib.hid (HS7.out.on hd)
  have HEb8 := Lib.hid he
  clear he hd HS7
  go_wp2_with fail
  refine (code_nil _).mono ?_
  rintro e w9 ⟨rfl, hd⟩
  have HS9 := Lib.hid (HS8.out.on hd)
  have HEb9 := Lib.hid (HEb8.out.on hd)
  clear hd HS8 HEb8
  go_wp2_with fail
  refine (code_c _ 1 _ HEb9 (Lib.hid HS9.out.laid)).mono ?_
  rintro e w10 ⟨rfl, hd⟩
  have HS10 := Lib.hid (HS9.out.on hd)
  have HEb10 := Lib.hid (HEb9.out.on hd)
  clear hd HS9 HEb9
  go_wp2_with fail
  go_ret
  have hS := HS10.out.bel
  exact ⟨rfl, hS⟩
set_option maxHeartbeats 8000000 in
set_option maxRecDepth 100000 in
theorem lay_01 (a b : Op) (W : World) (h : Hid (a.fewB = true)) (h2 : Hid (b.fewB = true)) (h3 : Hid (a.okB = false)) (h4 : Hid b.Ok) (hg : Hid (Laid W)) : Calls Tryd.prog 3 #[.agg a.a, .agg b.a] W fun e w' => e = .returned (.bool true) ∧ Below W.heap.size W w' := by
  go_enter Tryd.func3, Tryd.ntmps3
  go_wp2_with fail
  have HS1 := Lib.hid (Bs.start W a b hg.out)
  (try rw [show (W.alloc (Obj.cells a.a 23 (0, 0))).heap.size = W.heap.size + 1 by simp])
  obtain ⟨B, hB⟩ : ∃ B, W.heap.size = B := ⟨_, rfl⟩
  rw [hB] at HS1
  simp only [hB]
  generalize ((W.alloc (Obj.cells a.a 23 (0, 0))).alloc (Obj.cells b.a 23 (0, 0))) = w1 at *
  refine (awake_c _).mono ?_
  rintro e w2 ⟨rfl, hd⟩
  have HS2 := Lib.hid (HS1.out.on hd)
  clear hd HS1
  go_wp2_with (first | (refine wg_loadR B a HS2.out.a (by rfl) _ rfl rfl ?_))
  refine (few_c a 1 _ (Lib.hid (few1 h.out))).mono ?_
  rintro e w3 ⟨rfl, hd⟩
  have HS3 := Lib.hid (HS2.out.on hd)
  clear hd HS2
  go_wp2_with (first | (refine wg_loadR (B + 1) b HS3.out.b (by rfl) _ rfl rfl ?_))
  refine (few_c b 1 _ (Lib.hid (few1 h2.out))).mono ?_
  rintro e w4 ⟨rfl, hd⟩
  have HS4 := Lib.hid (HS3.out.on hd)
  clear hd HS3
  go_wp2_with (first | (refine wl_loadR B a HS4.out.a rfl _ rfl rfl ?_))
  refine (of_c a _).mono ?_
  rintro e w5 ⟨rfl, hd⟩
  have HS5 := Lib.hid (HS4.out.on hd)
  clear hd HS4
  go_wp2_with fail
  refine (lay_no a _ h3).mono ?_
  rintro e w6 ⟨⟨Ta, ua, rfl, he⟩, hd⟩
  have HS6 := Lib.hid (HS5.out.on hd)
  have HEa6 := Lib.hid he
  clear he hd HS5
  go_wp2_with (first | (refine wl_loadR (B + 1) b HS6.out.b rfl _ rfl rfl ?_))
  refine (of_c b _).mono ?_
  rintro e w7 ⟨rfl, hd⟩
  have HS7 := Lib.hid (HS6.out.on hd)
  have HEa7 := Lib.hid (HEa6.out.on hd)
  clear hd HS6 HEa6
  go_wp2_with fail
  refine (lay_ok b _ h4).mono ?_
  rintro e w8 ⟨rfl, hd⟩
  have HS8 := Lib.hid (HS7.out.on hd)
  have HEa8 := Lib.hid (HEa7.out.on hd)
  clear hd HS7 HEa7
  go_wp2_with fail
  refine (code_c _ 1 _ HEa8 (Lib.hid HS8.out.laid)).mono ?_
  rintro e w9 ⟨rfl, hd⟩
  have HS9 := Lib.hid (HS8.out.on hd)
  have HEa9 := Lib.hid (HEa8.out.on hd)
  clear hd HS8 HEa8
  go_wp2_with fail
  go_ret
  have hS := HS9.out.bel
  exact ⟨rfl, hS⟩
set_option maxHeartbeats 8000000 in
set_option maxRecDepth 100000 in
theorem lay_00 (a b : Op) (W : World) (h : Hid (a.fewB = true)) (h2 : Hid (b.fewB = true)) (h3 : Hid (a.okB = false)) (h4 : Hid (b.okB = false)) (hg : Hid (Laid W)) : Calls Tryd.prog 3 #[.agg a.a, .agg b.a] W fun e w' => e = .returned (.bool true) ∧ Below W.heap.size W w' := by
  go_enter Tryd.func3, Tryd.ntmps3
  go_wp2_with fail
  have HS1 := Lib.hid (Bs.start W a b hg.out)
  (try rw [show (W.alloc (Obj.cells a.a 23 (0, 0))).heap.size = W.heap.size + 1 by simp])
  obtain ⟨B, hB⟩ : ∃ B, W.heap.size = B := ⟨_, rfl⟩
  rw [hB] at HS1
  simp only [hB]
  generalize ((W.alloc (Obj.cells a.a 23 (0, 0))).alloc (Obj.cells b.a 23 (0, 0))) = w1 at *
  refine (awake_c _).mono ?_
  rintro e w2 ⟨rfl, hd⟩
  have HS2 := Lib.hid (HS1.out.on hd)
  clear hd HS1
  go_wp2_with (first | (refine wg_loadR B a HS2.out.a (by rfl) _ rfl rfl ?_))
  refine (few_c a 1 _ (Lib.hid (few1 h.out))).mono ?_
  rintro e w3 ⟨rfl, hd⟩
  have HS3 := Lib.hid (HS2.out.on hd)
  clear hd HS2
  go_wp2_with (first | (refine wg_loadR (B + 1) b HS3.out.b (by rfl) _ rfl rfl ?_))
  refine (few_c b 1 _ (Lib.hid (few1 h2.out))).mono ?_
  rintro e w4 ⟨rfl, hd⟩
  have HS4 := Lib.hid (HS3.out.on hd)
  clear hd HS3
  go_wp2_with (first | (refine wl_loadR B a HS4.out.a rfl _ rfl rfl ?_))
  refine (of_c a _).mono ?_
  rintro e w5 ⟨rfl, hd⟩
  have HS5 := Lib.hid (HS4.out.on hd)
  clear hd HS4
  go_wp2_with fail
  refine (lay_no a _ h3).mono ?_
  rintro e w6 ⟨⟨Ta, ua, rfl, he⟩, hd⟩
  have HS6 := Lib.hid (HS5.out.on hd)
  have HEa6 := Lib.hid he
  clear he hd HS5
  go_wp2_with (first | (refine wl_loadR (B + 1) b HS6.out.b rfl _ rfl rfl ?_))
  refine (of_c b _).mono ?_
  rintro e w7 ⟨rfl, hd⟩
  have HS7 := Lib.hid (HS6.out.on hd)
  have HEa7 := Lib.hid (HEa6.out.on hd)
  clear hd HS6 HEa6
  go_wp2_with fail
  refine (lay_no b _ h4).mono ?_
  rintro e w8 ⟨⟨Tb, ub, rfl, he⟩, hd⟩
  have HS8 := Lib.hid (HS7.out.on hd)
  have HEa8 := Lib.hid (HEa7.out.on hd)
  have HEb8 := Lib.hid he
  clear he hd HS7 HEa7
  go_wp2_with fail
  refine (code_c _ 1 _ HEa8 (Lib.hid HS8.out.laid)).mono ?_
  rintro e w9 ⟨rfl, hd⟩
  have HS9 := Lib.hid (HS8.out.on hd)
  have HEa9 := Lib.hid (HEa8.out.on hd)
  have HEb9 := Lib.hid (HEb8.out.on hd)
  clear hd HS8 HEa8 HEb8
  go_wp2_with fail
  go_ret
  have hS := HS9.out.bel
  exact ⟨rfl, hS⟩
theorem walk (a b : Op) (W : World) (hg : Hid (Laid W)) : Calls Tryd.prog 3 #[.agg a.a, .agg b.a] W fun e w' => e = .returned (.bool true) ∧ Below W.heap.size W w' := by
  cases h : a.fewB with
  | false => exact no1 a b W (Lib.hid h) hg
  | true =>
    cases h2 : b.fewB with
    | false => exact no2 a b W (Lib.hid h) (Lib.hid h2) hg
    | true =>
      by_cases h3 : a.Ok
      · by_cases h4 : b.Ok
        · exact lay_11 a b W (Lib.hid h) (Lib.hid h2) (Lib.hid h3) (Lib.hid h4) hg
        · exact lay_10 a b W (Lib.hid h) (Lib.hid h2) (Lib.hid h3) (Lib.hid (Op.okB_false.2 h4)) hg
      · by_cases h4 : b.Ok
        · exact lay_01 a b W (Lib.hid h) (Lib.hid h2) (Lib.hid (Op.okB_false.2 h3)) (Lib.hid h4) hg
        · exact lay_00 a b W (Lib.hid h) (Lib.hid h2) (Lib.hid (Op.okB_false.2 h3)) (Lib.hid (Op.okB_false.2 h4)) hg
end Go.Proofs.YtabhfopmblaohaaDoor.Opr.RowOperUnlike

