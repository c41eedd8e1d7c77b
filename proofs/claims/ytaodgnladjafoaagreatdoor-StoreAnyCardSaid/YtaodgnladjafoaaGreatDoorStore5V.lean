/- Words that the proof uses. -/
import Derived.Test.YtaodgnladjafoaaGreatDoorStore4V
import Derived.Test.YtaodgnladjafoaaGreatDoorSlotStV
set_option linter.unusedVariables false
set_option linter.unusedSimpArgs false
namespace Go.Proofs.YtaodgnladjafoaaGreatDoor.Sto
open Go.RowKit Go.Proofs.YtaodgnladjafoaaGreatDoorW.PrintWords Go.Proofs.YtaodgnladjafoaaGreatDoorW.PrintLast Go.Proofs.YtaodgnladjafoaaGreatDoorW.PrintMore Go.Proofs.YtaodgnladjafoaaGreatDoor.Md Go.Proofs.YtaodgnladjafoaaGreatDoor.Mni Go.Proofs.YtaodgnladjafoaaGreatDoor.QStoreLasts
open Go.Proofs.YtaodgnladjafoaaGreatDoor.Dk (Dsk IsD Ft)
open Go.Proofs.YtaodgnladjafoaaGreatDoor.Slt (Sl switched switch_ok)
open Go.Proofs.YtaodgnladjafoaaGreatDoor.Err (Laid IsErr code_nil code_c Chain at_some at_nil)
def oE : Mni.Loc := ⟨none, 0, none, 0, none, 0⟩
abbrev eA : Array Value := #[.slice none 0 0, .slice none 0 0, .int .i64 (-1), .slice none 0 0]
theorem at_empty (w : World) : At w oE emptyM := ⟨(Kd.R_reads' (Kd.R_nil rk 36 w 0 (fun _ => True))).2.2, Nat.le_refl _, (Kd.R_reads' (Kd.R_nil (Kd.int .i64) 3 w 0 (fun _ => True))).2.2, Nat.le_refl _, (Kd.R_reads' (Kd.R_nil lk 40 w 0 (fun _ => True))).2.2, Nat.le_refl _⟩
theorem right_empty {n : Int} (h : 2 ≤ n ∧ n ≤ 2048) : rightM emptyM n = true := by
  unfold rightM
  rw [decide_eq_true h]
  rfl
def tE : ByteArray := ⟨#[0, 0, 0, 0]⟩
theorem pages_tE : Blb.pagesV (tE.size : Int) = ((1 : Nat) : Int) := by decide
theorem exec_loadMe {ρ : Operand → Value} {oo : Oper} {x : Operand} {W : World} {b : Nat} (ho : oo.op = .load 43 x) (hx : ρ x = .pointer (some ⟨b, 0, none⟩)) (hp : W.heap[b]? = some (Obj.cells eA 43 (0, 0))) : (execOp ρ oo).run Tryz.prog W = .ok (.value (.agg eA)) W := exec_loadM (o := oE) (m := emptyM) ho hx hp
theorem exec_loadRl {ρ : Operand → Value} {oo : Oper} {x : Operand} {W : World} {b : Nat} {r : Rf} (ho : oo.op = .load 36 x) (hx : ρ x = .pointer (some ⟨b, 0, none⟩)) (hp : W.heap[b]? = some (Obj.cells (ra r) 36 (0, 0))) : (execOp ρ oo).run Tryz.prog W = .ok (.value (.agg #[.int .i64 r.f0, .int .i64 r.f1, .int .u32 r.f2])) W := exec_loadR ho hx hp
theorem exec_store_off {ρ : Operand → Value} {oo : Oper} {T : TypeId} {n : Nat} (hsz : (Tryz.prog.info? T).map (·.size) = some n) {w : World} {b off : Nat} {cs : Array Value} {t : TypeId} {vs : List Value} {p q : Operand} (ho : oo.op = .store T p q) (hx : ρ p = .pointer (some ⟨b, off, none⟩)) (hy : ρ q = .agg vs.toArray) (hb : w.heap[b]? = some (Obj.cells cs t (0, 0))) (hn : vs.length = n) (hf : off + n ≤ cs.size) (h1 : ∀ v ∈ vs, v.oneCell' = true) : (execOp ρ oo).run Tryz.prog w = .ok .skip (w.setRow b (cs.toList.take off ++ vs ++ cs.toList.drop (off + vs.length)).toArray) := by
  unfold execOp
  simp only [ho, hx, hy, Sem.run_bind, run_store_off hsz w b off cs t vs hb hn hf h1, Result.andThen_ok]
  rfl
theorem lay_e (n : Int) (w : World) (h : 2 ≤ n ∧ n ≤ 2048) : Calls Tryz.prog 38 #[.agg eA, .int .i64 n] w fun e w' => e = .returned (.tuple #[.string tE, .nilIface]) ∧ Below w.heap.size w w' := by
  have z := lay_yes oE emptyM n w (Lib.hid (at_empty w)) (Nat.zero_le _) (Nat.zero_le _) (Lib.hid (right_empty h)) (Lib.hid empty_fits)
  rw [show layM emptyM = tE from empty_lay] at z
  exact z
theorem alloc_size (w : World) (o : Obj) : (w.alloc o).heap.size = w.heap.size + 1 := Array.size_push _
theorem IsS.switched {w w' : World} {Z R M H : Nat} {v p : Value} {o : Mni.Loc} {m : Man} {s : St} {g : Int} {r : Rf} (h : IsS w ⟨Z, R, M, H, v, p⟩ o m s) (k : Mod (· = Z) w w') (hb : w'.heap[Z]? = some (Obj.cells (sa ⟨Z, R, M, H, v, .slice none 0 0⟩ oE emptyM { s with gen := g, own := r, put := [] }) 82 (0, 0))) :
    IsS w' ⟨Z, R, M, H, v, .slice none 0 0⟩ oE emptyM { s with gen := g, own := r, put := [] } ∧ Stp w ⟨Z, R, M, H, v, p⟩ w' ⟨Z, R, M, H, v, .slice none 0 0⟩ := by
  refine ⟨⟨hb, h.dsk.mod k (fun i hi e => (h.n2 i hi).1 e), h.held.mod k (fun e => h.n1 e.symm), Kd.R_nil _ _ _ _ _, fun w2 _ _ => at_empty w2, h.n1, fun i hi => ⟨(h.n2 i hi).1, (h.n2 i hi).2.1, fun e => by cases e⟩, fun e => (by cases e), fun e => (by cases e)⟩, k.mono (fun i _ e => .inl e), ?_⟩
  rintro i (hi | hi | hi | hi)
  · exact .inl (.inl hi)
  · exact .inl (.inr (.inl hi))
  · exact .inl (.inr (.inr (.inl hi)))
  · cases hi
set_option maxRecDepth 100000 in
theorem exec_nilr {ρ : Operand → Value} {oo : Oper} {p q : Operand} {W : World} (ho : oo.op = .binOp .eql 33 p q 33) (hx : ρ p = .slice none 0 0) (hy : ρ q = .slice none 0 0) : (execOp ρ oo).run Tryz.prog W = .ok (.value (.bool true)) W := by
  unfold execOp
  simp only [ho, hx, hy]
  kernel_rfl
set_option maxRecDepth 100000 in
theorem clone_r (w : World) : Calls Tryz.prog 69 #[.slice none 0 0] w fun e w' => e = .returned (.slice none 0 0) ∧ Below w.heap.size w w' := by
  go_enter Tryz.func69, Tryz.ntmps69
  go_wp2_with (first | (refine Kd.event_run rfl (exec_nilr rfl rfl rfl) ?_))
  go_ret
  exact ⟨rfl, Below.refl _ _⟩
set_option maxRecDepth 100000 in
theorem exec_nili {ρ : Operand → Value} {oo : Oper} {p q : Operand} {W : World} (ho : oo.op = .binOp .eql 40 p q 40) (hx : ρ p = .slice none 0 0) (hy : ρ q = .slice none 0 0) : (execOp ρ oo).run Tryz.prog W = .ok (.value (.bool true)) W := by
  unfold execOp
  simp only [ho, hx, hy]
  kernel_rfl
set_option maxRecDepth 100000 in
theorem clone_i (w : World) : Calls Tryz.prog 70 #[.slice none 0 0] w fun e w' => e = .returned (.slice none 0 0) ∧ Below w.heap.size w w' := by
  go_enter Tryz.func70, Tryz.ntmps70
  go_wp2_with (first | (refine Kd.event_run rfl (exec_nili rfl rfl rfl) ?_))
  go_ret
  exact ⟨rfl, Below.refl _ _⟩
set_option maxRecDepth 100000 in
theorem exec_nill {ρ : Operand → Value} {oo : Oper} {p q : Operand} {W : World} (ho : oo.op = .binOp .eql 41 p q 41) (hx : ρ p = .slice none 0 0) (hy : ρ q = .slice none 0 0) : (execOp ρ oo).run Tryz.prog W = .ok (.value (.bool true)) W := by
  unfold execOp
  simp only [ho, hx, hy]
  kernel_rfl
set_option maxRecDepth 100000 in
theorem clone_l (w : World) : Calls Tryz.prog 71 #[.slice none 0 0] w fun e w' => e = .returned (.slice none 0 0) ∧ Below w.heap.size w w' := by
  go_enter Tryz.func71, Tryz.ntmps71
  go_wp2_with (first | (refine Kd.event_run rfl (exec_nill rfl rfl rfl) ?_))
  go_ret
  exact ⟨rfl, Below.refl _ _⟩
set_option maxRecDepth 100000 in
theorem copied_results (tmps : Array Value) (W : World) (b : Nat) (cs : Array Value) (hs : cs.size = 4) (h4 : tmps.getD 2 undef = .pointer (some ⟨b, 0, none⟩)) (h : W.heap[b]? = some (Obj.cells cs 43 (0, 0))) : (results Tryz.f42 tmps).run Tryz.prog W = .ok (.agg cs) W := by
  have hl : (loadVar 43 ⟨b, 0, none⟩).run Tryz.prog W = .ok (.agg cs) W := run_loadVar_row W b 43 43 cs (0, 0) _ h Tryz.underlying43 rfl (by rw [sizeM, hs])
  have h4' : tmps[2]?.getD undef = .pointer (some ⟨b, 0, none⟩) := by simpa using h4
  simp [results, Tryz.results42, asAddr, h4', hl]
set_option maxHeartbeats 2000000 in
set_option maxRecDepth 100000 in
theorem copied_e (w : World) : Calls Tryz.prog 42 #[.agg eA] w fun e w' => e = .returned (.agg eA) ∧ Below w.heap.size w w' := by
  go_enter Tryz.func42, Tryz.ntmps42
  go_upto_region 1 with (first | (refine wl_allocM rfl rfl ?_))
  have hb1 : Below w.heap.size w (w.alloc (Obj.cells eA 43 (0, 0))) := (Below.refl _ _).alloc (Nat.le_refl _) _
  have hX1 := heap_alloc_last w (Obj.cells eA 43 (0, 0))
  obtain ⟨X, hX⟩ : ∃ X, w.heap.size = X := ⟨_, rfl⟩
  have HW := Lib.hid hX
  have hs1 : (w.alloc (Obj.cells eA 43 (0, 0))).heap.size = X + 1 := (alloc_size _ _).trans (by rw [hX])
  rw [hX] at hX1
  try simp only [hX]
  try rw [hs1]
  generalize (w.alloc (Obj.cells eA 43 (0, 0))) = w1 at *
  have hd2 : Below w1.heap.size w1 (w1.alloc (Obj.cells #[.slice none 0 0, .slice none 0 0, .int .i64 0, .slice none 0 0] 43 (0, 0))) := (Below.refl _ _).alloc (Nat.le_refl _) _
  have HX2 := blk_to (Lib.hid hX1) hd2
  have HB2 := below_to (Lib.hid hb1) (Nat.le_refl _) hd2
  have hY2 := heap_alloc_last w1 (Obj.cells #[.slice none 0 0, .slice none 0 0, .int .i64 0, .slice none 0 0] 43 (0, 0))
  rw [hs1] at hY2
  have HY2 := Lib.hid hY2
  generalize (w1.alloc (Obj.cells #[.slice none 0 0, .slice none 0 0, .int .i64 0, .slice none 0 0] 43 (0, 0))) = w2 at *
  obtain ⟨Y, hY⟩ : ∃ Y, X + 1 = Y := ⟨_, rfl⟩
  rw [hY] at HY2
  try simp only [hY]
  have HYX := Lib.hid (show Y ≠ X by omega)
  have HYw := Lib.hid (show w.heap.size ≤ Y by omega)
  have HXw := Lib.hid (show w.heap.size ≤ X by omega)
  clear hb1 hX hX1 hs1 hd2 hY2 hY
  have hdd : Below w2.heap.size w2 (World.drew w2) := (Below.refl _ _).drew
  have HXd := blk_to HX2 hdd
  have HYd := blk_to HY2 hdd
  have HBd := below_to HB2 (Nat.le_refl _) hdd
  clear hdd HX2 HY2 HB2
  refine start_ (n := 15) (S := fun w' => w'.cell? ⟨X, 0, none⟩ = some (.slice none 0 0) ∧ w'.cell? ⟨X, 1, none⟩ = some (.slice none 0 0) ∧ w'.cell? ⟨X, 3, none⟩ = some (.slice none 0 0)) (ds := [10, 12, 14]) #[false, false, false, false, false, false, false, false, false, false, false, false, false, false, false] (by kernel_rfl) rfl rfl ⟨(Err.cell_of_blk HXd.out 0), (Err.cell_of_blk HXd.out 1), (Err.cell_of_blk HXd.out 3)⟩ (fun hHeld => ?_)
  refine pure_ (i := 0) (N := some 5) (v := ?_) (a' := ?_) #[true, false, false, false, false, false, false, false, false, false, false, false, false, false, false] rfl rfl (by kernel_rfl) (fun _ _ _ h => h) (Or.inl ⟨by rfl, ?_⟩) ?_ ?_
  rotate_left
  · intro w'
    go_simp
    with_reducible rfl
  rotate_left
  · simp only [Act.put, List.setIfInBounds_toArray, List.set_cons_zero, List.set_cons_succ, i64_w, i32_w]
    rfl
  refine pure_ (i := 3) (N := some 8) (v := ?_) (a' := ?_) #[true, false, false, true, false, false, false, false, false, false, false, false, false, false, false] rfl rfl (by kernel_rfl) (fun _ _ _ h => h) (Or.inl ⟨by rfl, ?_⟩) ?_ ?_
  rotate_left
  · intro w'
    go_simp
    with_reducible rfl
  rotate_left
  · simp only [Act.put, List.setIfInBounds_toArray, List.set_cons_zero, List.set_cons_succ, i64_w, i32_w]
    rfl
  refine pure_ (i := 6) (N := some 11) (v := ?_) (a' := ?_) #[true, false, false, true, false, false, true, false, false, false, false, false, false, false, false] rfl rfl (by kernel_rfl) (fun _ _ _ h => h) (Or.inl ⟨by rfl, ?_⟩) ?_ ?_
  rotate_left
  · intro w'
    go_simp
    with_reducible rfl
  rotate_left
  · simp only [Act.put, List.setIfInBounds_toArray, List.set_cons_zero, List.set_cons_succ, i64_w, i32_w]
    rfl
  refine take_ (i := 1) (N := some 6) (v := ?_) (a' := ?_) #[true, true, false, true, false, false, true, false, false, false, false, false, false, false, false] rfl rfl (by kernel_rfl) (fun _ _ _ h => h) (Or.inl ⟨by rfl, ?_⟩) hHeld ?_ ?_
  rotate_left
  · rintro w' ⟨s0, s1, s2⟩
    go_simp
    with_reducible rfl
  rotate_left
  · simp only [Act.put, List.setIfInBounds_toArray, List.set_cons_zero, List.set_cons_succ, i64_w, i32_w]
    rfl
  refine take_ (i := 4) (N := some 9) (v := ?_) (a' := ?_) #[true, true, false, true, true, false, true, false, false, false, false, false, false, false, false] rfl rfl (by kernel_rfl) (fun _ _ _ h => h) (Or.inl ⟨by rfl, ?_⟩) hHeld ?_ ?_
  rotate_left
  · rintro w' ⟨s0, s1, s2⟩
    go_simp
    with_reducible rfl
  rotate_left
  · simp only [Act.put, List.setIfInBounds_toArray, List.set_cons_zero, List.set_cons_succ, i64_w, i32_w]
    rfl
  refine take_ (i := 7) (N := some 12) (v := ?_) (a' := ?_) #[true, true, false, true, true, false, true, true, false, false, false, false, false, false, false] rfl rfl (by kernel_rfl) (fun _ _ _ h => h) (Or.inl ⟨by rfl, ?_⟩) hHeld ?_ ?_
  rotate_left
  · rintro w' ⟨s0, s1, s2⟩
    go_simp
    with_reducible rfl
  rotate_left
  · simp only [Act.put, List.setIfInBounds_toArray, List.set_cons_zero, List.set_cons_succ, i64_w, i32_w]
    rfl
  refine one_ (i := 2) (N := some 7) #[true, true, true, true, true, false, true, true, false, false, false, false, false, false, false] rfl rfl (by kernel_rfl) (by decide) (fun K hK => ?_)
  refine goes_ Tryz.func69 (by kernel_rfl) rfl #[.slice none 0 0] (by rfl) rfl rfl (by simp only [List.map_toArray, List.map_cons, List.map_nil]; rfl) ?_
  with_reducible refine (clone_r _).mono ?_
  rintro e w3 ⟨rfl, hd⟩
  refine ⟨_, rfl, ?_⟩
  have HB3 := below_to HBd (Nat.le_refl _) hd
  have HX3 := blk_to HXd hd
  have HY3 := blk_to HYd hd
  clear hd
  refine hK.out _ _ ⟨(Err.cell_of_blk HX3.out 0), (Err.cell_of_blk HX3.out 1), (Err.cell_of_blk HX3.out 3)⟩ (fun hHeld => ?_)
  clear hK K
  refine norm_ (a' := ?_) ?_ ?_
  rotate_left
  · show Act.put _ (some 7) _ = _
    simp only [Act.put, List.setIfInBounds_toArray, List.set_cons_zero, List.set_cons_succ, i64_w, i32_w]
    rfl
  refine pure_ (i := 9) (N := some 14) (v := ?_) (a' := ?_) #[true, true, true, true, true, false, true, true, false, true, false, false, false, false, false] rfl rfl (by kernel_rfl) (fun _ _ _ h => h) (Or.inl ⟨by rfl, ?_⟩) ?_ ?_
  rotate_left
  · intro w'
    go_simp
    with_reducible rfl
  rotate_left
  · simp only [Act.put, List.setIfInBounds_toArray, List.set_cons_zero, List.set_cons_succ, i64_w, i32_w]
    rfl
  refine one_ (i := 5) (N := some 10) #[true, true, true, true, true, true, true, true, false, true, false, false, false, false, false] rfl rfl (by kernel_rfl) (by decide) (fun K hK => ?_)
  refine goes_ Tryz.func70 (by kernel_rfl) rfl #[.slice none 0 0] (by rfl) rfl rfl (by simp only [List.map_toArray, List.map_cons, List.map_nil]; rfl) ?_
  with_reducible refine (clone_i _).mono ?_
  rintro e w4 ⟨rfl, hd⟩
  refine ⟨_, rfl, ?_⟩
  have HB4 := below_to HB3 (Nat.le_refl _) hd
  have HX4 := blk_to HX3 hd
  have HY4 := blk_to HY3 hd
  clear hd
  refine hK.out _ _ ⟨(Err.cell_of_blk HX4.out 0), (Err.cell_of_blk HX4.out 1), (Err.cell_of_blk HX4.out 3)⟩ (fun hHeld => ?_)
  clear hK K
  refine norm_ (a' := ?_) ?_ ?_
  rotate_left
  · show Act.put _ (some 10) _ = _
    simp only [Act.put, List.setIfInBounds_toArray, List.set_cons_zero, List.set_cons_succ, i64_w, i32_w]
    rfl
  refine one_ (i := 8) (N := some 13) #[true, true, true, true, true, true, true, true, true, true, false, false, false, false, false] rfl rfl (by kernel_rfl) (by decide) (fun K hK => ?_)
  refine goes_ Tryz.func71 (by kernel_rfl) rfl #[.slice none 0 0] (by rfl) rfl rfl (by simp only [List.map_toArray, List.map_cons, List.map_nil]; rfl) ?_
  with_reducible refine (clone_l _).mono ?_
  rintro e w5 ⟨rfl, hd⟩
  refine ⟨_, rfl, ?_⟩
  have HB5 := below_to HB4 (Nat.le_refl _) hd
  have HX5 := blk_to HX4 hd
  have HY5 := blk_to HY4 hd
  clear hd
  have c0 := Err.cell_of_blk HX5.out 0
  have c1 := Err.cell_of_blk HX5.out 1
  have c3 := Err.cell_of_blk HX5.out 3
  have f0 : w5.frozen? ⟨X, 0, none⟩ = false := by simp [World.frozen?, HX5.out]
  have f1 : w5.frozen? ⟨X, 1, none⟩ = false := by simp [World.frozen?, HX5.out]
  have f3 : w5.frozen? ⟨X, 3, none⟩ = false := by simp [World.frozen?, HX5.out]
  refine hK.out _ _ ⟨(Err.cell_of_blk HX5.out 0), (Err.cell_of_blk HX5.out 1), (Err.cell_of_blk HX5.out 3)⟩ (fun hHeld => ?_)
  clear hK K
  refine norm_ (a' := ?_) ?_ ?_
  rotate_left
  · show Act.put _ (some 13) _ = _
    simp only [Act.put, List.setIfInBounds_toArray, List.set_cons_zero, List.set_cons_succ, i64_w, i32_w]
    rfl
  refine last_ (i := 10) (N := none) #[true, true, true, true, true, true, true, true, true, true, true, false, false, false, false] rfl rfl (by kernel_rfl) (by decide) (fun K hK => ?_)
  refine skip_ (w1 := ?_) (by rfl) rfl ?_ ?_
  rotate_left
  · go_simp
    rfl
  refine hK.out _ _ ?_
  clear hK K
  refine pure_ (i := 11) (N := some 15) (v := ?_) (a' := ?_) #[true, true, true, true, true, true, true, true, true, true, true, true, false, false, false] rfl rfl (by kernel_rfl) (fun _ _ _ h => h) (Or.inl ⟨by rfl, ?_⟩) ?_ ?_
  rotate_left
  · intro w'
    go_simp
    with_reducible rfl
  rotate_left
  · simp only [Act.put, List.setIfInBounds_toArray, List.set_cons_zero, List.set_cons_succ, i64_w, i32_w]
    rfl
  refine last_ (i := 12) (N := none) #[true, true, true, true, true, true, true, true, true, true, true, true, true, false, false] rfl rfl (by kernel_rfl) (by decide) (fun K hK => ?_)
  refine skip_ (w1 := ?_) (by rfl) rfl ?_ ?_
  rotate_left
  · go_simp
    rfl
  refine hK.out _ _ ?_
  clear hK K
  refine pure_ (i := 13) (N := some 16) (v := ?_) (a' := ?_) #[true, true, true, true, true, true, true, true, true, true, true, true, true, true, false] rfl rfl (by kernel_rfl) (fun _ _ _ h => h) (Or.inl ⟨by rfl, ?_⟩) ?_ ?_
  rotate_left
  · intro w'
    go_simp
    with_reducible rfl
  rotate_left
  · simp only [Act.put, List.setIfInBounds_toArray, List.set_cons_zero, List.set_cons_succ, i64_w, i32_w]
    rfl
  refine last_ (i := 14) (N := none) #[true, true, true, true, true, true, true, true, true, true, true, true, true, true, true] rfl rfl (by kernel_rfl) (by decide) (fun K hK => ?_)
  refine skip_ (w1 := ?_) (by rfl) rfl ?_ ?_
  rotate_left
  · go_simp
    rfl
  refine hK.out _ _ ?_
  clear hK K
  refine done_ (by kernel_rfl) ?_
  clear hHeld HXd HYd HBd HX3 HY3 HB3 HX4 HY4 HB4 c0 c1 c3 f0 f1 f3
  have k0 : Mod (· = X) w5 (((w5.setCell ⟨X, 0, none⟩ (.slice none 0 0)).setCell ⟨X, 1, none⟩ (.slice none 0 0)).setCell ⟨X, 3, none⟩ (.slice none 0 0)) := (((Mod.refl (· = X) w5).set _ _ (.inl rfl)).set _ _ (.inl rfl)).set _ _ (.inl rfl)
  have HX6 := Lib.hid (show (((w5.setCell ⟨X, 0, none⟩ (.slice none 0 0)).setCell ⟨X, 1, none⟩ (.slice none 0 0)).setCell ⟨X, 3, none⟩ (.slice none 0 0)).heap[X]? = some (Obj.cells eA 43 (0, 0)) from Blb.set1 (Blb.set1 (Blb.set1 HX5.out 0 _) 1 _) 3 _)
  have HY6 := Lib.hid (k0.blk HY5.out HYX.out)
  have HB6 := Lib.hid (HB5.out.trans (k0.below HB5.out.size (fun i hi (e : i = X) => by have := HXw.out; omega)))
  generalize (((w5.setCell ⟨X, 0, none⟩ (.slice none 0 0)).setCell ⟨X, 1, none⟩ (.slice none 0 0)).setCell ⟨X, 3, none⟩ (.slice none 0 0)) = w6 at *
  clear k0 HX5 HY5 HB5
  have c3 := Err.cell_of_blk HX6.out 3
  have t0 : decide ((0 : Int) < ((0 : Nat) : Int)) = false := by decide
  go_wp2_with fail
  go_loopg [20] 0 (fun kq v20 wr => v20 = .int .i64 0 ∧ wr = w6)
  case atStart => exact ⟨rfl, rfl⟩
  case round =>
    obtain ⟨rfl, rfl⟩ := hrel
    clear c3
    go_wp2_with (first | (refine wl_loadM X oE emptyM HX6.out rfl _ rfl rfl ?_) | (refine wl_storeM Y #[.slice none 0 0, .slice none 0 0, .int .i64 0, .slice none 0 0] rfl oE emptyM HY6.out rfl _ _ rfl rfl rfl ?_))
    (try simp only [Exit.inBlock, Exit.then])
    refine bodyPost_ret (v := .agg eA) ?_ rfl ?_
    · exact copied_results _ _ Y eA rfl rfl (setRow_heap _ Y _ _ _ _ HY6.out)
    exact ⟨rfl, HB6.out.trans ((mod_row _ Y _).below HB6.out.size (fun i hi (e : i = Y) => by have := HYw.out; omega))⟩
theorem st_off {T : TypeId} {n : Nat} (hsz : (Tryz.prog.info? T).map (·.size) = some n) {w : World} {b off : Nat} {cs : Array Value} {t : TypeId} {vs : List Value} (hb : w.heap[b]? = some (Obj.cells cs t (0, 0))) (hn : vs.length = n) (hf : off + n ≤ cs.size) (h1 : ∀ v ∈ vs, v.oneCell' = true) : ∃ w', (∀ {ρ : Operand → Value} {oo : Oper} {p q : Operand}, oo.op = .store T p q → ρ p = .pointer (some ⟨b, off, none⟩) → ρ q = .agg vs.toArray → (execOp ρ oo).run Tryz.prog w = .ok .skip w') ∧ w'.heap[b]? = some (Obj.cells (cs.toList.take off ++ vs ++ cs.toList.drop (off + vs.length)).toArray t (0, 0)) ∧ Mod (· = b) w w' :=
  ⟨_, fun ho hx hy => exec_store_off hsz ho hx hy hb hn hf h1, setRow_heap _ b _ _ _ _ hb, mod_row _ b _⟩
theorem one_e : ∀ v ∈ Array.toList eA, v.oneCell' = true := by
  intro v hv
  simp only [List.mem_cons, List.not_mem_nil, or_false] at hv
  rcases hv with rfl | rfl | rfl | rfl <;> rfl
theorem one_r (r : Rf) : ∀ v ∈ Array.toList (ra r), v.oneCell' = true := by
  intro v hv
  simp only [ra, List.mem_cons, List.not_mem_nil, or_false] at hv
  rcases hv with rfl | rfl | rfl <;> rfl
def swS (s : St) (a : Int) : St := { d := switched { s.d with soft := s.d.soft ++ Blb.pgs tE a 1 } ⟨s.gen + 1, a, (tE.size : Int), AdM.sum tE⟩, gen := s.gen + 1, own := ⟨a, (tE.size : Int), AdM.sum tE⟩, put := [], held := s.held }
set_option maxHeartbeats 4000000 in
set_option maxRecDepth 100000 in
theorem Switch_ok (Z R M H : Nat) (v p : Value) (o : Mni.Loc) (m : Man) (s : St) (a : Int) (w : World) (h : Hid (IsS w ⟨Z, R, M, H, v, p⟩ o m s)) (hok : Ok m s) (hg0 : 0 ≤ s.gen) (hg1 : s.gen < 4294967295) (hno : ∀ x ∈ s.put, sameR x ⟨a, (tE.size : Int), AdM.sum tE⟩ = false) (hf : Hid (SpM.find (used m s) ((1 : Nat) : Int) (used m s).length 0 = (a, true))) (ha0 : 0 ≤ a) (hx : a + ((1 : Nat) : Int) ≤ s.d.size) (hdn : Hid (s.d.down = false)) (hb : Hid (s.d.budget = -1)) (hl : s.d.soft.length + 1 ≤ 9000) :
    Calls Tryz.prog 12 #[.pointer (some ⟨Z, 0, none⟩), .agg eA] w fun e w' => e = .returned .nilIface ∧ IsS w' ⟨Z, R, M, H, .slice none 0 0, .slice none 0 0⟩ oE emptyM (swS s a) ∧ Stp w ⟨Z, R, M, H, v, p⟩ w' ⟨Z, R, M, H, .slice none 0 0, .slice none 0 0⟩ := by
  have hs2 := rightM_sz hok.rt
  have hpl := hok.pl
  have hrt : (Sl.mk (s.gen + 1) a (tE.size : Int) (AdM.sum tE)).Rt := by
    have z := Slt.sum_lt tE
    exact ⟨by show 0 < s.gen + 1; omega, by show s.gen + 1 < 4294967296; omega, ha0, by show a ≤ 2048; omega, by show (0 : Int) ≤ (tE.size : Int); decide, by show (tE.size : Int) ≤ 16384; decide, z.1, z.2⟩
  have q1 : IntKind.u32.wrap (s.gen + 1) = s.gen + 1 := IntWalk.u32_in _ (by omega)
  have t1 : (s.gen == 4294967295) = false := beq_eq_false_iff_ne.2 (by omega)
  have HP0 := h.out.lt
  go_enter Tryz.func12, Tryz.ntmps12
  go_upto_region 1 with fail
  have hd1 : Below w.heap.size w (w.alloc (Obj.cells eA 43 (0, 0))) := (Below.refl _ _).alloc (Nat.le_refl _) _
  have HP1 := Lib.hid (heap_alloc_last w (Obj.cells eA 43 (0, 0)))
  have H1 := Lib.hid (h.out.on hd1)
  have HB1 := Lib.hid hd1
  obtain ⟨P, hP⟩ : ∃ P, w.heap.size = P := ⟨_, rfl⟩
  have HW := Lib.hid hP
  rw [hP] at HP1 HP0
  try simp only [hP]
  generalize (w.alloc (Obj.cells eA 43 (0, 0))) = w1 at *
  have HPf0 := Lib.hid (show ¬ Fs ⟨Z, R, M, H, v, p⟩ P from fun f => Nat.lt_irrefl _ (HP0 P f))
  clear hd1 hP HP0 h
  go_upto_region 3 with fail
  have hdd : Below w1.heap.size w1 (World.drew w1) := (Below.refl _ _).drew
  have Hd := Lib.hid (H1.out.on hdd)
  have HBd := below_to HB1 (Nat.le_refl _) hdd
  have HPd := blk_to HP1 hdd
  clear hdd H1 HB1 HP1
  refine start_ (n := 12) (S := fun w' => w'.heap[P]? = some (Obj.cells eA 43 (0, 0)) ∧ w'.cell? ⟨Z, 0, none⟩ = some (.pointer (some ⟨R, 0, none⟩))) (ds := []) #[false, false, false, false, false, false, false, false, false, false, false, false] (by kernel_rfl) rfl rfl ⟨HPd.out, Hd.out.cs.1⟩ (fun hHeld => ?_)
  refine pure_ (i := 1) (N := some 15) (v := ?_) (a' := ?_) #[false, true, false, false, false, false, false, false, false, false, false, false] rfl rfl (by kernel_rfl) (fun _ _ _ h => h) (Or.inl ⟨by rfl, ?_⟩) ?_ ?_
  rotate_left
  · intro w'
    go_simp
    with_reducible rfl
  rotate_left
  · simp only [Act.put, List.setIfInBounds_toArray, List.set_cons_zero, List.set_cons_succ, i64_w, i32_w]
    rfl
  refine pure_ (i := 2) (N := some 16) (v := ?_) (a' := ?_) #[false, true, true, false, false, false, false, false, false, false, false, false] rfl rfl (by kernel_rfl) (fun _ _ _ h => h) (Or.inl ⟨by rfl, ?_⟩) ?_ ?_
  rotate_left
  · intro w'
    go_simp
    with_reducible rfl
  rotate_left
  · simp only [Act.put, List.setIfInBounds_toArray, List.set_cons_zero, List.set_cons_succ, i64_w, i32_w]
    rfl
  refine pure_ (i := 3) (N := some 17) (v := ?_) (a' := ?_) #[false, true, true, true, false, false, false, false, false, false, false, false] rfl rfl (by kernel_rfl) (fun _ _ _ h => h) (Or.inl ⟨by rfl, ?_⟩) ?_ ?_
  rotate_left
  · intro w'
    go_simp
    with_reducible rfl
  rotate_left
  · simp only [Act.put, List.setIfInBounds_toArray, List.set_cons_zero, List.set_cons_succ, i64_w, i32_w]
    rfl
  refine take_ (i := 0) (N := some 14) (v := ?_) (a' := ?_) #[true, true, true, true, false, false, false, false, false, false, false, false] rfl rfl (by kernel_rfl) (fun _ _ _ h => h) (Or.inl ⟨by rfl, ?_⟩) hHeld ?_ ?_
  rotate_left
  · rintro w' ⟨s0, s1⟩
    refine (exec_loadMe (x := .tmp 3) ?_ ?_  s0).trans ?_
    · rfl
    · rfl
    · with_reducible rfl
  rotate_left
  · simp only [Act.put, List.setIfInBounds_toArray, List.set_cons_zero, List.set_cons_succ, i64_w, i32_w]
    rfl
  refine take_ (i := 4) (N := some 18) (v := ?_) (a' := ?_) #[true, true, true, true, true, false, false, false, false, false, false, false] rfl rfl (by kernel_rfl) (fun _ _ _ h => h) (Or.inl ⟨by rfl, ?_⟩) hHeld ?_ ?_
  rotate_left
  · rintro w' ⟨s0, s1⟩
    go_simp
    with_reducible rfl
  rotate_left
  · simp only [Act.put, List.setIfInBounds_toArray, List.set_cons_zero, List.set_cons_succ, i64_w, i32_w]
    rfl
  refine one_ (i := 5) (N := some 19) #[true, true, true, true, true, true, false, false, false, false, false, false] rfl rfl (by kernel_rfl) (by decide) (fun K hK => ?_)
  refine goes_ Tryz.func39 (by kernel_rfl) rfl #[.pointer (some ⟨R, 0, none⟩)] (by rfl) rfl rfl (by simp only [List.map_toArray, List.map_cons, List.map_nil]; rfl) ?_
  with_reducible refine (Dk.size_c _ R M v s.d (Lib.hid Hd.out.dsk)).mono ?_
  rintro e w3 ⟨rfl, hd⟩
  refine ⟨_, rfl, ?_⟩
  have H3 := Lib.hid (Hd.out.on hd)
  have HB3 := below_to HBd (Nat.le_refl _) hd
  have HP3 := blk_to HPd hd
  clear hd
  refine hK.out _ _ ⟨HP3.out, H3.out.cs.1⟩ (fun hHeld => ?_)
  clear hK K
  refine norm_ (a' := ?_) ?_ ?_
  rotate_left
  · show Act.put _ (some 19) _ = _
    simp only [Act.put, List.setIfInBounds_toArray, List.set_cons_zero, List.set_cons_succ, i64_w, i32_w]
    rfl
  refine one_ (i := 6) (N := some 20) #[true, true, true, true, true, true, true, false, false, false, false, false] rfl rfl (by kernel_rfl) (by decide) (fun K hK => ?_)
  refine goes_ Tryz.func38 (by kernel_rfl) rfl #[.agg eA, .int .i64 s.d.size] (by rfl) rfl rfl (by simp only [List.map_toArray, List.map_cons, List.map_nil]; rfl) ?_
  with_reducible refine (lay_e s.d.size _ hs2).mono ?_
  rintro e w4 ⟨rfl, hd⟩
  refine ⟨_, rfl, ?_⟩
  have H4 := Lib.hid (H3.out.on hd)
  have HB4 := below_to HB3 (Nat.le_refl _) hd
  have HP4 := blk_to HP3 hd
  clear hd
  refine hK.out _ _ ⟨HP4.out, H4.out.cs.1⟩ (fun hHeld => ?_)
  clear hK K
  refine norm_ (a' := ?_) ?_ ?_
  rotate_left
  · show Act.put _ (some 20) _ = _
    simp only [Act.put, List.setIfInBounds_toArray, List.set_cons_zero, List.set_cons_succ, i64_w, i32_w]
    rfl
  refine pure_ (i := 7) (N := some 13) (v := ?_) (a' := ?_) #[true, true, true, true, true, true, true, true, false, false, false, false] rfl rfl (by kernel_rfl) (fun _ _ _ h => h) (Or.inl ⟨by rfl, ?_⟩) ?_ ?_
  rotate_left
  · intro w'
    go_simp
    with_reducible rfl
  rotate_left
  · simp only [Act.put, List.setIfInBounds_toArray, List.set_cons_zero, List.set_cons_succ, i64_w, i32_w]
    rfl
  refine pure_ (i := 8) (N := some 21) (v := ?_) (a' := ?_) #[true, true, true, true, true, true, true, true, true, false, false, false] rfl rfl (by kernel_rfl) (fun _ _ _ h => h) (Or.inl ⟨by rfl, ?_⟩) ?_ ?_
  rotate_left
  · intro w'
    go_simp
    with_reducible rfl
  rotate_left
  · simp only [Act.put, List.setIfInBounds_toArray, List.set_cons_zero, List.set_cons_succ, i64_w, i32_w]
    rfl
  refine pure_ (i := 9) (N := some 22) (v := ?_) (a' := ?_) #[true, true, true, true, true, true, true, true, true, true, false, false] rfl rfl (by kernel_rfl) (fun _ _ _ h => h) (Or.inl ⟨by rfl, ?_⟩) ?_ ?_
  rotate_left
  · intro w'
    go_simp
    with_reducible rfl
  rotate_left
  · simp only [Act.put, List.setIfInBounds_toArray, List.set_cons_zero, List.set_cons_succ, i64_w, i32_w]
    rfl
  refine pure_ (i := 10) (N := some 5) (v := ?_) (a' := ?_) #[true, true, true, true, true, true, true, true, true, true, true, false] rfl rfl (by kernel_rfl) (fun _ _ _ h => h) (Or.inl ⟨by rfl, ?_⟩) ?_ ?_
  rotate_left
  · intro w'
    go_simp
    with_reducible rfl
  rotate_left
  · simp only [Act.put, List.setIfInBounds_toArray, List.set_cons_zero, List.set_cons_succ, i64_w, i32_w]
    rfl
  refine pure_ (i := 11) (N := some 6) (v := ?_) (a' := ?_) #[true, true, true, true, true, true, true, true, true, true, true, true] rfl rfl (by kernel_rfl) (fun _ _ _ h => h) (Or.inl ⟨by rfl, ?_⟩) ?_ ?_
  rotate_left
  · intro w'
    go_simp
    with_reducible rfl
  rotate_left
  · simp only [Act.put, List.setIfInBounds_toArray, List.set_cons_zero, List.set_cons_succ, i64_w, i32_w]
    rfl
  refine done_ (by kernel_rfl) ?_
  clear hHeld Hd HBd HPd H3 HB3 HP3
  have HS4 := Lib.hid (Stp.of_below (q := ⟨Z, R, M, H, v, p⟩) HB4.out)
  clear HB4
  have c1 := H4.out.cs.2.1
  go_wp2_with fail
  clear c1
  refine (Put_ok Z R M H v p o m s tE 1 a w4 H4 hok (Lib.hid pages_tE) (Nat.le_refl _) (by decide) hf ha0 hx hdn hb hl).mono ?_
  rintro e w5 ⟨rfl, v5, p5, hi5, hs5⟩
  have hp5 := hs5.out (Err.lt_of_block HP4.out) HPf0.out
  have H5 := Lib.hid hi5
  have HP5 := Lib.hid (hp5.2.trans HP4.out)
  have HPf5 := Lib.hid hp5.1
  have HS5 := Lib.hid (HS4.out.trans hs5)
  clear hi5 hs5 hp5 HS4 H4 HP4 HPf0
  obtain ⟨r, hr⟩ : ∃ r : Rf, r = ⟨a, (tE.size : Int), AdM.sum tE⟩ := ⟨_, rfl⟩
  have hput : (putS s a tE 1).put = s.put ++ [r] := by rw [hr]; rfl
  rw [← hr] at hno ⊢
  have hrt2 : (Sl.mk (s.gen + 1) r.f0 r.f1 r.f2).Rt := by rw [hr]; exact hrt
  have HR := Lib.hid hr
  clear hr hrt
  go_upto_if 42 with (first | (refine wl_allocR rfl rfl ?_) | (refine wl_storeRn #[.int .i64 0, .int .i64 0, .int .u32 0] rfl r rfl _ _ rfl rfl rfl ?_))
  have hd6 : Below w5.heap.size w5 (w5.alloc (Obj.cells (ra r) 36 (0, 0))) := (Below.refl _ _).alloc (Nat.le_refl _) _
  have HK6 := Lib.hid (heap_alloc_last w5 (Obj.cells (ra r) 36 (0, 0)))
  have hlt5 := H5.out.lt
  have H6 := Lib.hid (H5.out.on hd6)
  have HS6 := Lib.hid (HS5.out.below hd6)
  have HP6 := blk_to HP5 hd6
  obtain ⟨K, hK⟩ : ∃ K, w5.heap.size = K := ⟨_, rfl⟩
  rw [hK] at HK6 hlt5
  simp only [hK]
  generalize (w5.alloc (Obj.cells (ra r) 36 (0, 0))) = w6 at *
  have HKf6 := Lib.hid (show ¬ Fs ⟨Z, R, M, H, v5, p5⟩ K from fun hf => Nat.lt_irrefl _ (hlt5 K hf))
  clear hK hd6 hlt5 H5 HS5 HP5
  go_wp2_with (first | (refine wl_loadR K r HK6.out rfl _ rfl rfl ?_))
  refine (without_c Z R M H v5 p5 o m (putS s a tE 1) s.put r w6 H6 hpl hno hput).mono ?_
  rintro e w7 ⟨rfl, p7, hi7, hs7⟩
  have hp7 := hs7.out (Err.lt_of_block HP6.out) HPf5.out
  have hk7 := hs7.out (Err.lt_of_block HK6.out) HKf6.out
  have HP7 := Lib.hid (hp7.2.trans HP6.out)
  have HPf := Lib.hid hp7.1
  have HK7 := Lib.hid (hk7.2.trans HK6.out)
  have HKf := Lib.hid hk7.1
  have HS7 := Lib.hid (HS6.out.trans hs7)
  obtain ⟨s6, hs6e⟩ : ∃ s6 : St, { putS s a tE 1 with put := s.put } = s6 := ⟨_, rfl⟩
  rw [hs6e] at hi7
  have H7 := Lib.hid hi7
  have e1 : s6.gen = s.gen := by rw [← hs6e]; rfl
  have e2 : s6.d = { s.d with soft := s.d.soft ++ Blb.pgs tE a 1 } := by rw [← hs6e]; rfl
  have HDn := Lib.hid (show s6.d.down = false by rw [e2]; exact hdn.out)
  have HBg := Lib.hid (show s6.d.budget = -1 by rw [e2]; exact hb.out)
  have hs6 : 2 ≤ s6.d.size := by rw [e2]; exact hs2.1
  have hl6 : s6.d.soft.length ≤ 9000 := by
    rw [e2]
    show (s.d.soft ++ Blb.pgs tE a 1).length ≤ 9000
    rw [List.length_append, Blb.pgs_length]
    omega
  have HE := Lib.hid hs6e
  have HE1 := Lib.hid e1
  clear hp7 hk7 hi7 hs7 hs6e e1 e2 H6 HP6 HK6 HPf5 HKf6 HS6 hput
  go_upto_region 12 with fail
  have hdd : Below w7.heap.size w7 (World.drew w7) := (Below.refl _ _).drew
  have hd0 := H7.out.on hdd
  have HKd := blk_to HK7 hdd
  have HPd := blk_to HP7 hdd
  have HSd := Lib.hid (HS7.out.below hdd)
  obtain ⟨g0, hg0e⟩ : ∃ g0, s6.gen = g0 := ⟨_, rfl⟩
  have Hd := Lib.hid hd0
  clear hdd hd0 H7 HK7 HP7 HS7
  refine start_ (n := 13) (S := fun w' => w'.cell? ⟨Z, 0, none⟩ = some (.pointer (some ⟨R, 0, none⟩)) ∧ w'.cell? ⟨Z, 1, none⟩ = some (.int .u32 s.gen) ∧ w'.heap[K]? = some (Obj.cells (ra r) 36 (0, 0))) (ds := []) #[false, false, false, false, false, false, false, false, false, false, false, false, false] (by kernel_rfl) rfl rfl ⟨Hd.out.cs.1, (by rw [← HE1.out]; exact Hd.out.cs.2.1), HKd.out⟩ (fun hHeld => ?_)
  refine pure_ (i := 0) (N := some 47) (v := ?_) (a' := ?_) #[true, false, false, false, false, false, false, false, false, false, false, false, false] rfl rfl (by kernel_rfl) (fun _ _ _ h => h) (Or.inl ⟨by rfl, ?_⟩) ?_ ?_
  rotate_left
  · intro w'
    go_simp
    with_reducible rfl
  rotate_left
  · simp only [Act.put, List.setIfInBounds_toArray, List.set_cons_zero, List.set_cons_succ, i64_w, i32_w]
    rfl
  refine pure_ (i := 1) (N := some 48) (v := ?_) (a' := ?_) #[true, true, false, false, false, false, false, false, false, false, false, false, false] rfl rfl (by kernel_rfl) (fun _ _ _ h => h) (Or.inl ⟨by rfl, ?_⟩) ?_ ?_
  rotate_left
  · intro w'
    go_simp
    with_reducible rfl
  rotate_left
  · simp only [Act.put, List.setIfInBounds_toArray, List.set_cons_zero, List.set_cons_succ, i64_w, i32_w]
    rfl
  refine pure_ (i := 2) (N := some 49) (v := ?_) (a' := ?_) #[true, true, true, false, false, false, false, false, false, false, false, false, false] rfl rfl (by kernel_rfl) (fun _ _ _ h => h) (Or.inl ⟨by rfl, ?_⟩) ?_ ?_
  rotate_left
  · intro w'
    go_simp
    with_reducible rfl
  rotate_left
  · simp only [Act.put, List.setIfInBounds_toArray, List.set_cons_zero, List.set_cons_succ, i64_w, i32_w]
    rfl
  refine pure_ (i := 4) (N := some 51) (v := ?_) (a' := ?_) #[true, true, true, false, true, false, false, false, false, false, false, false, false] rfl rfl (by kernel_rfl) (fun _ _ _ h => h) (Or.inl ⟨by rfl, ?_⟩) ?_ ?_
  rotate_left
  · intro w'
    go_simp
    with_reducible rfl
  rotate_left
  · simp only [Act.put, List.setIfInBounds_toArray, List.set_cons_zero, List.set_cons_succ, i64_w, i32_w]
    rfl
  refine pure_ (i := 5) (N := some 52) (v := ?_) (a' := ?_) #[true, true, true, false, true, true, false, false, false, false, false, false, false] rfl rfl (by kernel_rfl) (fun _ _ _ h => h) (Or.inl ⟨by rfl, ?_⟩) ?_ ?_
  rotate_left
  · intro w'
    go_simp
    with_reducible rfl
  rotate_left
  · simp only [Act.put, List.setIfInBounds_toArray, List.set_cons_zero, List.set_cons_succ, i64_w, i32_w]
    rfl
  refine pure_ (i := 6) (N := some 53) (v := ?_) (a' := ?_) #[true, true, true, false, true, true, true, false, false, false, false, false, false] rfl rfl (by kernel_rfl) (fun _ _ _ h => h) (Or.inl ⟨by rfl, ?_⟩) ?_ ?_
  rotate_left
  · intro w'
    go_simp
    with_reducible rfl
  rotate_left
  · simp only [Act.put, List.setIfInBounds_toArray, List.set_cons_zero, List.set_cons_succ, i64_w, i32_w]
    rfl
  refine take_ (i := 3) (N := some 50) (v := ?_) (a' := ?_) #[true, true, true, true, true, true, true, false, false, false, false, false, false] rfl rfl (by kernel_rfl) (fun _ _ _ h => h) (Or.inl ⟨by rfl, ?_⟩) hHeld ?_ ?_
  rotate_left
  · rintro w' ⟨s0, s1, s2⟩
    go_simp
    with_reducible rfl
  rotate_left
  · simp only [Act.put, List.setIfInBounds_toArray, List.set_cons_zero, List.set_cons_succ, i64_w, i32_w]
    rfl
  refine take_ (i := 7) (N := some 54) (v := ?_) (a' := ?_) #[true, true, true, true, true, true, true, true, false, false, false, false, false] rfl rfl (by kernel_rfl) (fun _ _ _ h => h) (Or.inl ⟨by rfl, ?_⟩) hHeld ?_ ?_
  rotate_left
  · rintro w' ⟨s0, s1, s2⟩
    go_simp
    with_reducible rfl
  rotate_left
  · simp only [Act.put, List.setIfInBounds_toArray, List.set_cons_zero, List.set_cons_succ, i64_w, i32_w]
    rfl
  refine pure_ (i := 8) (N := some 55) (v := ?_) (a' := ?_) #[true, true, true, true, true, true, true, true, true, false, false, false, false] rfl rfl (by kernel_rfl) (fun _ _ _ h => h) (Or.inl ⟨by rfl, ?_⟩) ?_ ?_
  rotate_left
  · intro w'
    go_simp
    with_reducible rfl
  rotate_left
  · simp only [Act.put, List.setIfInBounds_toArray, List.set_cons_zero, List.set_cons_succ, i64_w, i32_w]
    rfl
  refine take_ (i := 9) (N := some 56) (v := ?_) (a' := ?_) #[true, true, true, true, true, true, true, true, true, true, false, false, false] rfl rfl (by kernel_rfl) (fun _ _ _ h => h) (Or.inl ⟨by rfl, ?_⟩) hHeld ?_ ?_
  rotate_left
  · rintro w' ⟨s0, s1, s2⟩
    refine (exec_loadRl (x := .tmp 7) ?_ ?_  s2).trans ?_
    · rfl
    · rfl
    · with_reducible rfl
  rotate_left
  · simp only [Act.put, List.setIfInBounds_toArray, List.set_cons_zero, List.set_cons_succ, i64_w, i32_w]
    rfl
  refine pure_ (i := 10) (N := some 57) (v := ?_) (a' := ?_) #[true, true, true, true, true, true, true, true, true, true, true, false, false] rfl rfl (by kernel_rfl) (fun _ _ _ h => h) (Or.inl ⟨by rfl, ?_⟩) ?_ ?_
  rotate_left
  · intro w'
    go_simp
    with_reducible rfl
  rotate_left
  · simp only [Act.put, List.setIfInBounds_toArray, List.set_cons_zero, List.set_cons_succ, i64_w, i32_w]
    rfl
  refine one_ (i := 11) (N := some 58) #[true, true, true, true, true, true, true, true, true, true, true, true, false] rfl rfl (by kernel_rfl) (by decide) (fun K hK => ?_)
  refine goes_ Tryz.func41 (by kernel_rfl) rfl #[.pointer (some ⟨R, 0, none⟩), .agg (Sl.a ⟨s.gen + 1, r.f0, r.f1, r.f2⟩)] (by rfl) rfl rfl (by simp only [List.map_toArray, List.map_cons, List.map_nil]; rfl) ?_
  with_reducible refine (switch_ok _ R M v5 s6.d ⟨s.gen + 1, r.f0, r.f1, r.f2⟩ (Lib.hid Hd.out.dsk) hrt2 HDn hs6 (by rw [HBg.out]; decide) (by rw [HBg.out]; decide) (by rw [HBg.out]; decide) hl6).mono ?_
  rintro e w9 ⟨rfl, hm, hd9⟩
  refine ⟨_, rfl, ?_⟩
  obtain ⟨hi9, hst9⟩ := Hd.out.disk hm hd9 Slt.ft_nil
  have ho9 := hst9.out (Err.lt_of_block HKd.out) HKf.out
  have hp9 := hst9.out (Err.lt_of_block HPd.out) HPf.out
  have H9 := Lib.hid hi9
  have HS9 := Lib.hid (HSd.out.trans hst9)
  have HK9 := Lib.hid (ho9.2.trans HKd.out)
  have HP9 := Lib.hid (hp9.2.trans HPd.out)
  have HKf9 := Lib.hid ho9.1
  have HPf9 := Lib.hid hp9.1
  clear hm hd9 hi9 hst9 ho9 hp9
  refine hK.out _ _ ⟨H9.out.cs.1, (by rw [← HE1.out]; exact H9.out.cs.2.1), HK9.out⟩ (fun hHeld => ?_)
  clear hK K
  refine norm_ (a' := ?_) ?_ ?_
  rotate_left
  · show Act.put _ (some 58) _ = _
    simp only [Act.put, List.setIfInBounds_toArray, List.set_cons_zero, List.set_cons_succ, i64_w, i32_w]
    rfl
  refine pure_ (i := 12) (N := some 8) (v := ?_) (a' := ?_) #[true, true, true, true, true, true, true, true, true, true, true, true, true] rfl rfl (by kernel_rfl) (fun _ _ _ h => h) (Or.inl ⟨by rfl, ?_⟩) ?_ ?_
  rotate_left
  · intro w'
    go_simp
    with_reducible rfl
  rotate_left
  · simp only [Act.put, List.setIfInBounds_toArray, List.set_cons_zero, List.set_cons_succ, i64_w, i32_w]
    rfl
  refine done_ (by kernel_rfl) ?_
  clear hHeld Hd HKd HPd HSd
  go_upto_region 15 with fail
  have hdd : Below w9.heap.size w9 (World.drew w9) := (Below.refl _ _).drew
  have H10 := Lib.hid (H9.out.on hdd)
  have HS10 := Lib.hid (HS9.out.below hdd)
  have HK10 := blk_to HK9 hdd
  have HP10 := blk_to HP9 hdd
  have HPZ := Lib.hid (show ¬ (P = Z) from fun e => HPf9.out (.inl e))
  have HKZ := Lib.hid (show ¬ (K = Z) from fun e => HKf9.out (.inl e))
  have c1 : (World.drew w9).cell? ⟨Z, 1, none⟩ = some (.int .u32 s.gen) := by rw [← HE1.out]; exact H10.out.cs.2.1
  clear hdd H9 HS9 HK9 HP9
  refine start_ (n := 24) (S := fun w' => w'.heap[P]? = some (Obj.cells eA 43 (0, 0)) ∧ w'.heap[K]? = some (Obj.cells (ra r) 36 (0, 0))) (ds := [20, 23]) #[false, false, false, false, false, false, false, false, false, false, false, false, false, false, false, false, false, false, false, false, false, false, false, false] (by kernel_rfl) rfl rfl ⟨HP10.out, HK10.out⟩ (fun hHeld => ?_)
  refine pure_ (i := 0) (N := some 62) (v := ?_) (a' := ?_) #[true, false, false, false, false, false, false, false, false, false, false, false, false, false, false, false, false, false, false, false, false, false, false, false] rfl rfl (by kernel_rfl) (fun _ _ _ h => h) (Or.inl ⟨by rfl, ?_⟩) ?_ ?_
  rotate_left
  · intro w'
    go_simp
    with_reducible rfl
  rotate_left
  · simp only [Act.put, List.setIfInBounds_toArray, List.set_cons_zero, List.set_cons_succ, i64_w, i32_w]
    rfl
  refine pure_ (i := 1) (N := some 63) (v := ?_) (a' := ?_) #[true, true, false, false, false, false, false, false, false, false, false, false, false, false, false, false, false, false, false, false, false, false, false, false] rfl rfl (by kernel_rfl) (fun _ _ _ h => h) (Or.inl ⟨by rfl, ?_⟩) ?_ ?_
  rotate_left
  · intro w'
    go_simp
    with_reducible rfl
  rotate_left
  · simp only [Act.put, List.setIfInBounds_toArray, List.set_cons_zero, List.set_cons_succ, i64_w, i32_w]
    rfl
  refine pure_ (i := 2) (N := some 64) (v := ?_) (a' := ?_) #[true, true, true, false, false, false, false, false, false, false, false, false, false, false, false, false, false, false, false, false, false, false, false, false] rfl rfl (by kernel_rfl) (fun _ _ _ h => h) (Or.inl ⟨by rfl, ?_⟩) ?_ ?_
  rotate_left
  · intro w'
    go_simp
    with_reducible rfl
  rotate_left
  · simp only [Act.put, List.setIfInBounds_toArray, List.set_cons_zero, List.set_cons_succ, i64_w, i32_w]
    rfl
  refine pure_ (i := 3) (N := some 65) (v := ?_) (a' := ?_) #[true, true, true, true, false, false, false, false, false, false, false, false, false, false, false, false, false, false, false, false, false, false, false, false] rfl rfl (by kernel_rfl) (fun _ _ _ h => h) (Or.inl ⟨by rfl, ?_⟩) ?_ ?_
  rotate_left
  · intro w'
    go_simp
    with_reducible rfl
  rotate_left
  · simp only [Act.put, List.setIfInBounds_toArray, List.set_cons_zero, List.set_cons_succ, i64_w, i32_w]
    rfl
  refine pure_ (i := 4) (N := some 66) (v := ?_) (a' := ?_) #[true, true, true, true, true, false, false, false, false, false, false, false, false, false, false, false, false, false, false, false, false, false, false, false] rfl rfl (by kernel_rfl) (fun _ _ _ h => h) (Or.inl ⟨by rfl, ?_⟩) ?_ ?_
  rotate_left
  · intro w'
    go_simp
    with_reducible rfl
  rotate_left
  · simp only [Act.put, List.setIfInBounds_toArray, List.set_cons_zero, List.set_cons_succ, i64_w, i32_w]
    rfl
  refine pure_ (i := 5) (N := some 67) (v := ?_) (a' := ?_) #[true, true, true, true, true, true, false, false, false, false, false, false, false, false, false, false, false, false, false, false, false, false, false, false] rfl rfl (by kernel_rfl) (fun _ _ _ h => h) (Or.inl ⟨by rfl, ?_⟩) ?_ ?_
  rotate_left
  · intro w'
    go_simp
    with_reducible rfl
  rotate_left
  · simp only [Act.put, List.setIfInBounds_toArray, List.set_cons_zero, List.set_cons_succ, i64_w, i32_w]
    rfl
  refine pure_ (i := 6) (N := some 68) (v := ?_) (a' := ?_) #[true, true, true, true, true, true, true, false, false, false, false, false, false, false, false, false, false, false, false, false, false, false, false, false] rfl rfl (by kernel_rfl) (fun _ _ _ h => h) (Or.inl ⟨by rfl, ?_⟩) ?_ ?_
  rotate_left
  · intro w'
    go_simp
    with_reducible rfl
  rotate_left
  · simp only [Act.put, List.setIfInBounds_toArray, List.set_cons_zero, List.set_cons_succ, i64_w, i32_w]
    rfl
  refine take_ (i := 9) (N := some 71) (v := ?_) (a' := ?_) #[true, true, true, true, true, true, true, false, false, true, false, false, false, false, false, false, false, false, false, false, false, false, false, false] rfl rfl (by kernel_rfl) (fun _ _ _ h => h) (Or.inl ⟨by rfl, ?_⟩) hHeld ?_ ?_
  rotate_left
  · rintro w' ⟨s0, s1⟩
    refine (exec_loadMe (x := .tmp 3) ?_ ?_  s0).trans ?_
    · rfl
    · rfl
    · with_reducible rfl
  rotate_left
  · simp only [Act.put, List.setIfInBounds_toArray, List.set_cons_zero, List.set_cons_succ, i64_w, i32_w]
    rfl
  refine take_ (i := 11) (N := some 73) (v := ?_) (a' := ?_) #[true, true, true, true, true, true, true, false, false, true, false, true, false, false, false, false, false, false, false, false, false, false, false, false] rfl rfl (by kernel_rfl) (fun _ _ _ h => h) (Or.inl ⟨by rfl, ?_⟩) hHeld ?_ ?_
  rotate_left
  · rintro w' ⟨s0, s1⟩
    refine (exec_loadR (x := .tmp 7) ?_ ?_  s1).trans ?_
    · rfl
    · rfl
    · with_reducible rfl
  rotate_left
  · simp only [Act.put, List.setIfInBounds_toArray, List.set_cons_zero, List.set_cons_succ, i64_w, i32_w]
    rfl
  refine join_ (σ := Unit) 12 #[true, true, true, true, true, true, true, true, true, true, true, true, false, false, false, false, false, false, false, false, false, false, false, false] (fun _ => [(69, .int .u32 s.gen), (70, .int .u32 (s.gen + 1)), (72, .agg eA)]) (fun _ w' => Below (World.drew w9).heap.size (World.drew w9) w') ?_ ?_
  rotate_left
  · intro hCont
    refine two_ (i := 7) (j := 10) (Ni := some 69) (Nj := some 72) #[true, true, true, true, true, true, true, true, false, true, false, true, false, false, false, false, false, false, false, false, false, false, false, false] #[true, true, true, true, true, true, true, false, false, true, true, true, false, false, false, false, false, false, false, false, false, false, false, false] rfl rfl rfl rfl (by kernel_rfl) (by decide) (by decide) (fun K hK => ?_) (fun K hK => ?_)
    · skip
      refine value_ (w1 := ?_) (v := ?_) (by rfl) rfl ?_ ?_
      rotate_left 2
      · go_simp
        constructor
        · rfl
        · rfl
      refine hK.out _ _ ⟨HP10.out, HK10.out⟩ (fun hHeld => ?_)
      clear hK K
      refine norm_ (a' := ?_) ?_ ?_
      rotate_left
      · show Act.put _ (some 69) _ = _
        simp only [Act.put, List.setIfInBounds_toArray, List.set_cons_zero, List.set_cons_succ, i64_w, i32_w]
        rfl
      refine pure_ (i := 8) (N := some 70) (v := ?_) (a' := ?_) #[true, true, true, true, true, true, true, true, true, true, false, true, false, false, false, false, false, false, false, false, false, false, false, false] rfl rfl (by kernel_rfl) (fun _ _ _ h => h) (Or.inl ⟨by rfl, ?_⟩) ?_ ?_
      rotate_left
      · intro w'
        go_simp
        with_reducible rfl
      rotate_left
      · simp only [Act.put, List.setIfInBounds_toArray, List.set_cons_zero, List.set_cons_succ, i64_w, i32_w]
        rfl
      refine one_ (i := 10) (N := some 72) #[true, true, true, true, true, true, true, true, true, true, true, true, false, false, false, false, false, false, false, false, false, false, false, false] rfl rfl (by kernel_rfl) (by decide) (fun K hK => ?_)
      refine goes_ Tryz.func42 (by kernel_rfl) rfl #[.agg eA] (by rfl) rfl rfl (by simp only [List.map_toArray, List.map_cons, List.map_nil]; rfl) ?_
      with_reducible refine (copied_e _).mono ?_
      rintro e w11 ⟨rfl, hd⟩
      refine ⟨_, rfl, ?_⟩
      have HK11 := blk_to HK10 hd
      have HP11 := blk_to HP10 hd
      have c1b := (hd.cell (World.block_lt_of_cell? _ _ c1)).trans c1
      refine hK.out _ _ ⟨HP11.out, HK11.out⟩ (fun hHeld => ?_)
      clear hK K
      refine norm_ (a' := ?_) ?_ ?_
      rotate_left
      · show Act.put _ (some 72) _ = _
        simp only [Act.put, List.setIfInBounds_toArray, List.set_cons_zero, List.set_cons_succ, i64_w, i32_w]
        rfl
      exact norm_ (by simp only [putAll, Act.put, List.setIfInBounds_toArray, List.set_cons_zero, List.set_cons_succ]) (hCont () _ hd)
    · skip
      refine goes_ Tryz.func42 (by kernel_rfl) rfl #[.agg eA] (by rfl) rfl rfl (by simp only [List.map_toArray, List.map_cons, List.map_nil]; rfl) ?_
      with_reducible refine (copied_e _).mono ?_
      rintro e w11 ⟨rfl, hd⟩
      refine ⟨_, rfl, ?_⟩
      have HK11 := blk_to HK10 hd
      have HP11 := blk_to HP10 hd
      have c1b := (hd.cell (World.block_lt_of_cell? _ _ c1)).trans c1
      refine hK.out _ _ ⟨HP11.out, HK11.out⟩ (fun hHeld => ?_)
      clear hK K
      refine norm_ (a' := ?_) ?_ ?_
      rotate_left
      · show Act.put _ (some 72) _ = _
        simp only [Act.put, List.setIfInBounds_toArray, List.set_cons_zero, List.set_cons_succ, i64_w, i32_w]
        rfl
      refine one_ (i := 7) (N := some 69) #[true, true, true, true, true, true, true, true, false, true, true, true, false, false, false, false, false, false, false, false, false, false, false, false] rfl rfl (by kernel_rfl) (by decide) (fun K hK => ?_)
      refine value_ (w1 := ?_) (v := ?_) (by rfl) rfl ?_ ?_
      rotate_left 2
      · go_simp
        constructor
        · rfl
        · rfl
      refine hK.out _ _ ⟨HP11.out, HK11.out⟩ (fun hHeld => ?_)
      clear hK K
      refine norm_ (a' := ?_) ?_ ?_
      rotate_left
      · show Act.put _ (some 69) _ = _
        simp only [Act.put, List.setIfInBounds_toArray, List.set_cons_zero, List.set_cons_succ, i64_w, i32_w]
        rfl
      refine pure_ (i := 8) (N := some 70) (v := ?_) (a' := ?_) #[true, true, true, true, true, true, true, true, true, true, true, true, false, false, false, false, false, false, false, false, false, false, false, false] rfl rfl (by kernel_rfl) (fun _ _ _ h => h) (Or.inl ⟨by rfl, ?_⟩) ?_ ?_
      rotate_left
      · intro w'
        go_simp
        with_reducible rfl
      rotate_left
      · simp only [Act.put, List.setIfInBounds_toArray, List.set_cons_zero, List.set_cons_succ, i64_w, i32_w]
        rfl
      exact norm_ (by simp only [putAll, Act.put, List.setIfInBounds_toArray, List.set_cons_zero, List.set_cons_succ]) (hCont () _ hd)
  rintro ⟨⟩ w11 hd
  have H11 := Lib.hid (H10.out.on hd)
  have HS11 := Lib.hid (HS10.out.below hd)
  have HK11 := blk_to HK10 hd
  have HP11 := blk_to HP10 hd
  clear hd c1
  have HB11 := Lib.hid H11.out.blk
  have c1 : w11.cell? ⟨Z, 1, none⟩ = some (.int .u32 s.gen) := by rw [← HE1.out]; exact H11.out.cs.2.1
  have f1 : w11.frozen? ⟨Z, 1, none⟩ = false := by simp [World.frozen?, HB11.out]
  have hHeld : w11.heap[P]? = some (Obj.cells eA 43 (0, 0)) ∧ w11.heap[K]? = some (Obj.cells (ra r) 36 (0, 0)) := ⟨HP11.out, HK11.out⟩
  refine norm_ (a' := ?_) ?_ ?_
  rotate_left
  · simp only [putAll, Act.put, List.setIfInBounds_toArray, List.set_cons_zero, List.set_cons_succ]
    rfl
  refine pure_ (i := 12) (N := some 74) (v := ?_) (a' := ?_) #[true, true, true, true, true, true, true, true, true, true, true, true, true, false, false, false, false, false, false, false, false, false, false, false] rfl rfl (by kernel_rfl) (fun _ _ _ h => h) (Or.inl ⟨by rfl, ?_⟩) ?_ ?_
  rotate_left
  · intro w'
    go_simp
    with_reducible rfl
  rotate_left
  · simp only [Act.put, List.setIfInBounds_toArray, List.set_cons_zero, List.set_cons_succ, i64_w, i32_w]
    rfl
  refine pure_ (i := 13) (N := some 75) (v := ?_) (a' := ?_) #[true, true, true, true, true, true, true, true, true, true, true, true, true, true, false, false, false, false, false, false, false, false, false, false] rfl rfl (by kernel_rfl) (fun _ _ _ h => h) (Or.inl ⟨by rfl, ?_⟩) ?_ ?_
  rotate_left
  · intro w'
    go_simp
    with_reducible rfl
  rotate_left
  · simp only [Act.put, List.setIfInBounds_toArray, List.set_cons_zero, List.set_cons_succ, i64_w, i32_w]
    rfl
  refine one_ (i := 14) (N := none) #[true, true, true, true, true, true, true, true, true, true, true, true, true, true, true, false, false, false, false, false, false, false, false, false] rfl rfl (by kernel_rfl) (by decide) (fun K hK => ?_)
  refine skip_ (w1 := ?_) (by rfl) rfl ?_ ?_
  rotate_left
  · go_simp
    rfl
  have m12 := Lib.hid (mod_cellZ w11 Z 1 (.int .u32 (s.gen + 1)))
  have HB12 := Lib.hid (blk_setZ HB11.out 1 (.int .u32 (s.gen + 1)))
  have HP12 := Lib.hid (m12.out.blk HP11.out HPZ.out)
  have HK12 := Lib.hid (m12.out.blk HK11.out HKZ.out)
  generalize (w11.setCell ⟨Z, 1, none⟩ (.int .u32 (s.gen + 1))) = w12 at *
  clear c1 f1
  refine hK.out _ _ ⟨HP12.out, HK12.out⟩ (fun hHeld => ?_)
  clear hK K
  refine pure_ (i := 15) (N := some 76) (v := ?_) (a' := ?_) #[true, true, true, true, true, true, true, true, true, true, true, true, true, true, true, true, false, false, false, false, false, false, false, false] rfl rfl (by kernel_rfl) (fun _ _ _ h => h) (Or.inl ⟨by rfl, ?_⟩) ?_ ?_
  rotate_left
  · intro w'
    go_simp
    with_reducible rfl
  rotate_left
  · simp only [Act.put, List.setIfInBounds_toArray, List.set_cons_zero, List.set_cons_succ, i64_w, i32_w]
    rfl
  refine pure_ (i := 16) (N := some 77) (v := ?_) (a' := ?_) #[true, true, true, true, true, true, true, true, true, true, true, true, true, true, true, true, true, false, false, false, false, false, false, false] rfl rfl (by kernel_rfl) (fun _ _ _ h => h) (Or.inl ⟨by rfl, ?_⟩) ?_ ?_
  rotate_left
  · intro w'
    go_simp
    with_reducible rfl
  rotate_left
  · simp only [Act.put, List.setIfInBounds_toArray, List.set_cons_zero, List.set_cons_succ, i64_w, i32_w]
    rfl
  refine one_ (i := 17) (N := none) #[true, true, true, true, true, true, true, true, true, true, true, true, true, true, true, true, true, true, false, false, false, false, false, false] rfl rfl (by kernel_rfl) (by decide) (fun K hK => ?_)
  obtain ⟨w13, he13, hb13, hm13⟩ := st_off szM (off := 2) (vs := Array.toList eA) HB12.out rfl (Nat.le_of_ble_eq_true rfl) one_e
  refine skip_ (by rfl) rfl (he13 rfl rfl rfl) ?_
  have HB13 := Lib.hid hb13
  have m13 := Lib.hid (m12.out.tr hm13)
  have HP13 := Lib.hid (hm13.blk HP12.out HPZ.out)
  have HK13 := Lib.hid (hm13.blk HK12.out HKZ.out)
  clear he13 hb13 hm13
  refine hK.out _ _ ⟨HP13.out, HK13.out⟩ (fun hHeld => ?_)
  clear hK K
  refine pure_ (i := 18) (N := some 78) (v := ?_) (a' := ?_) #[true, true, true, true, true, true, true, true, true, true, true, true, true, true, true, true, true, true, true, false, false, false, false, false] rfl rfl (by kernel_rfl) (fun _ _ _ h => h) (Or.inl ⟨by rfl, ?_⟩) ?_ ?_
  rotate_left
  · intro w'
    go_simp
    with_reducible rfl
  rotate_left
  · simp only [Act.put, List.setIfInBounds_toArray, List.set_cons_zero, List.set_cons_succ, i64_w, i32_w]
    rfl
  refine pure_ (i := 19) (N := some 79) (v := ?_) (a' := ?_) #[true, true, true, true, true, true, true, true, true, true, true, true, true, true, true, true, true, true, true, true, false, false, false, false] rfl rfl (by kernel_rfl) (fun _ _ _ h => h) (Or.inl ⟨by rfl, ?_⟩) ?_ ?_
  rotate_left
  · intro w'
    go_simp
    with_reducible rfl
  rotate_left
  · simp only [Act.put, List.setIfInBounds_toArray, List.set_cons_zero, List.set_cons_succ, i64_w, i32_w]
    rfl
  refine last_ (i := 20) (N := none) #[true, true, true, true, true, true, true, true, true, true, true, true, true, true, true, true, true, true, true, true, true, false, false, false] rfl rfl (by kernel_rfl) (by decide) (fun K hK => ?_)
  obtain ⟨w14, he14, hb14, hm14⟩ := st_off szRf (off := 6) (vs := Array.toList (ra r)) HB13.out rfl (Nat.le_of_ble_eq_true rfl) (one_r r)
  refine skip_ (by rfl) rfl (he14 rfl rfl rfl) ?_
  have HB14 := Lib.hid hb14
  have m14 := Lib.hid (m13.out.tr hm14)
  have c9 : w14.cell? ⟨Z, 9, none⟩ = some p7 := Err.cell_of_blk HB14.out 9
  have f9 : w14.frozen? ⟨Z, 9, none⟩ = false := by simp [World.frozen?, HB14.out]
  clear he14 hb14 hm14
  refine hK.out _ _ ?_
  clear hK K
  refine pure_ (i := 21) (N := some 80) (v := ?_) (a' := ?_) #[true, true, true, true, true, true, true, true, true, true, true, true, true, true, true, true, true, true, true, true, true, true, false, false] rfl rfl (by kernel_rfl) (fun _ _ _ h => h) (Or.inl ⟨by rfl, ?_⟩) ?_ ?_
  rotate_left
  · intro w'
    go_simp
    with_reducible rfl
  rotate_left
  · simp only [Act.put, List.setIfInBounds_toArray, List.set_cons_zero, List.set_cons_succ, i64_w, i32_w]
    rfl
  refine pure_ (i := 22) (N := some 81) (v := ?_) (a' := ?_) #[true, true, true, true, true, true, true, true, true, true, true, true, true, true, true, true, true, true, true, true, true, true, true, false] rfl rfl (by kernel_rfl) (fun _ _ _ h => h) (Or.inl ⟨by rfl, ?_⟩) ?_ ?_
  rotate_left
  · intro w'
    go_simp
    with_reducible rfl
  rotate_left
  · simp only [Act.put, List.setIfInBounds_toArray, List.set_cons_zero, List.set_cons_succ, i64_w, i32_w]
    rfl
  refine last_ (i := 23) (N := none) #[true, true, true, true, true, true, true, true, true, true, true, true, true, true, true, true, true, true, true, true, true, true, true, true] rfl rfl (by kernel_rfl) (by decide) (fun K hK => ?_)
  refine skip_ (w1 := ?_) (by rfl) rfl ?_ ?_
  rotate_left
  · go_simp
    rfl
  refine hK.out _ _ ?_
  clear hK K
  refine done_ (by kernel_rfl) ?_
  clear hHeld c9 f9
  have m15 := m14.out.tr (mod_cellZ w14 Z 9 (.slice none 0 0))
  have hb15 := blk_setZ HB14.out 9 (.slice none 0 0)
  have z := H11.out.switched (g := s.gen + 1) (r := r) m15 hb15
  have HF := Lib.hid z
  clear m15 hb15 z
  generalize (w14.setCell ⟨Z, 9, none⟩ (.slice none 0 0)) = w15 at *
  go_wp2_with fail
  go_ret
  refine ⟨rfl, ?_, HS11.out.trans HF.out.2⟩
  have z := HF.out.1
  rw [← HE.out, HR.out] at z
  exact z
end Go.Proofs.YtaodgnladjafoaaGreatDoor.Sto
