/- Hold, Free, Forget, Gen, Get. -/
import Derived.Test.YtaodgnladjafoaaDoorStore2V
import Derived.Test.YtaodgnladjafoaaDoorHeld2V
set_option linter.unusedVariables false
set_option linter.unusedSimpArgs false
namespace Go.Proofs.YtaodgnladjafoaaDoor.Sto
open Go.RowKit Go.Proofs.YtaodgnladjafoaaDoorW.PrintWords Go.Proofs.YtaodgnladjafoaaDoorW.PrintLast Go.Proofs.YtaodgnladjafoaaDoorW.PrintMore Go.Proofs.YtaodgnladjafoaaDoor.Md Go.Proofs.YtaodgnladjafoaaDoor.Mni Go.Proofs.YtaodgnladjafoaaDoor.QStorePuts
open Go.Proofs.YtaodgnladjafoaaDoor.Dk (Dsk IsD Ft)
open Go.Proofs.YtaodgnladjafoaaDoor.Err (Laid IsErr code_nil code_c Chain at_some at_nil)
theorem exec_look {ρ : Operand → Value} {oo : Oper} {x y : Operand} {W : World} {H : Nat} {r : Rf} {g : Int} (ho : oo.op = .lookup 69 x y false) (hx : ρ x = .map (some H)) (hy : ρ y = .agg (ra r)) (hr : (Instr.lookup 69 (.map (some H)) (.agg (ra r)) false).run Tryd.prog W = .ok (.int .i64 g) W) : (execOp ρ oo).run Tryd.prog W = .ok (.value (.int .i64 g)) W := by
  unfold execOp; simp only [ho, hx, hy, hr, Sem.run_bind, Sem.run_pure, Result.andThen_ok]
theorem exec_entry {ρ : Operand → Value} {oo : Oper} {x y : Operand} {W W1 : World} {H : Nat} {r : Rf} {u : Value} (ho : oo.op = .mapEntry 69 x y) (hx : ρ x = .map (some H)) (hy : ρ y = .agg (ra r)) (hr : (Instr.mapEntry 69 (.map (some H)) (.agg (ra r))).run Tryd.prog W = .ok u W1) : (execOp ρ oo).run Tryd.prog W = .ok (.value u) W1 := by
  unfold execOp; simp only [ho, hx, hy, hr, Sem.run_bind, Sem.run_pure, Result.andThen_ok]
theorem exec_estore {ρ : Operand → Value} {oo : Oper} {x y z : Operand} {W W1 : World} {H : Nat} {st u : Value} (ho : oo.op = .entryStore 69 x y z) (hx : ρ x = .map (some H)) (hy : ρ y = st) (hz : ρ z = u) (hr : (Instr.entryStore 69 (.map (some H)) st u).run Tryd.prog W = .ok () W1) : (execOp ρ oo).run Tryd.prog W = .ok .skip W1 := by
  unfold execOp; simp only [ho, hx, hy, hz, hr, Sem.run_bind, Sem.run_pure, Result.andThen_ok]
theorem exec_del {ρ : Operand → Value} {oo : Oper} {x y : Operand} {W W1 : World} {H : Nat} {r : Rf} (ho : oo.op = .call { callee := .builtin .delete, args := #[x, y], argTypes := #[69, 44] }) (hx : ρ x = .map (some H)) (hy : ρ y = .agg (ra r)) (hr : ∀ ty, (Builtin.delete_ #[69, 44] ty #[.map (some H), .agg (ra r)]).run Tryd.prog W = .ok (.tuple #[]) W1) : (execOp ρ oo).run Tryd.prog W = .ok (.value (.tuple #[])) W1 := by
  have e1 : (#[x, y] : Array Operand).map ρ = #[.map (some H), .agg (ra r)] := by simp [hx, hy]
  have e2 : (execOp ρ oo) = (do pure (.value (← Builtin.delete_ #[69, 44] oo.type ((#[x, y] : Array Operand).map ρ)))) := by
    unfold execOp; simp only [ho]; rfl
  rw [e2, e1]
  simp only [hr, Sem.run_bind, Sem.run_pure, Result.andThen_ok]
/-- behind a write to the map of what is held -/
theorem IsS.setHeld {w w1 : World} {Z R M H : Nat} {v p : Value} {o : Mni.Loc} {m : Man} {s : St} {L : List (Rf × Int)} (h : IsS w ⟨Z, R, M, H, v, p⟩ o m s) (k : Mod (· = H) w w1) (hH : HeldAt w1 H L) : IsS w1 ⟨Z, R, M, H, v, p⟩ o m { s with held := L } := by
  refine ⟨?_, h.dsk.mod k (fun i hi e => (h.n2 i hi).2.1 e), hH, row_on (α := Rf) rfl h.put k (fun b hb (e : b = H) => h.n3.2 (e ▸ hb)), ?_, h.n1, h.n2, h.n3⟩
  · have := k.blk h.blk (fun e => h.n1 e)
    simpa [sa] using this
  · exact h.man_of ⟨k.mono (fun i _ (e : i = H) => .inr (.inl e)), fun i hi => .inl hi⟩
theorem stp_held {w w1 : World} {Z R M H : Nat} {v p : Value} (k : Mod (· = H) w w1) : Stp w ⟨Z, R, M, H, v, p⟩ w1 ⟨Z, R, M, H, v, p⟩ := ⟨k.mono (fun i _ (e : i = H) => .inr (.inl e)), fun i hi => .inl hi⟩
theorem look_put {w : World} {H : Nat} {L : List (Rf × Int)} {r : Rf} {g : Int} (h : HeldAt w H (putH L r g)) : (Instr.lookup 69 (.map (some H)) (.agg (ra r)) false).run Tryd.prog w = .ok (.int .i64 g) w := by
  have := look_H w H _ r h
  rwa [getH_put, if_pos (sameR_self r)] at this
theorem fold_snoc {α β : Type} (f : β → α → β) (b : β) (l : List α) (j : Nat) (x : α) (hj : j < l.length) (hx : l[j] = x) : (l.take (j + 1)).foldl f b = f ((l.take j).foldl f b) x := by
  rw [← List.take_append_getElem hj, List.foldl_append, hx]; rfl
theorem del_all {w : World} {H : Nat} {L : List (Rf × Int)} {r : Rf} (h : ∀ ty : TypeId, ∃ w', (Builtin.delete_ #[69, 44] ty #[.map (some H), .agg (ra r)]).run Tryd.prog w = .ok (.tuple #[]) w' ∧ HeldAt w' H (delH L r) ∧ Mod (· = H) w w' ∧ w'.heap.size = w.heap.size) : ∃ w', (∀ ty : TypeId, (Builtin.delete_ #[69, 44] ty #[.map (some H), .agg (ra r)]).run Tryd.prog w = .ok (.tuple #[]) w') ∧ HeldAt w' H (delH L r) ∧ Mod (· = H) w w' ∧ w'.heap.size = w.heap.size := by
  obtain ⟨w', h1, h2⟩ := h 0
  exact ⟨w', fun ty => h1, h2⟩
set_option maxHeartbeats 8000000 in
set_option maxRecDepth 100000 in
theorem Hold_c (Z R M H : Nat) (v p u : Value) (o : Mni.Loc) (m : Man) (s : St) (l : List Rf) (w : World) (h : Hid (IsS w ⟨Z, R, M, H, v, p⟩ o m s)) (hl : l.length ≤ 1000000) (hu : Hid (rk.R 44 w 0 (fun _ => True) u l)) (hn : ∀ b, u.ownBlock = some b → ¬ Fs ⟨Z, R, M, H, v, p⟩ b) :
    Calls Tryd.prog 13 #[.pointer (some ⟨Z, 0, none⟩), u] w fun e w' => e = .returned (.tuple #[]) ∧ IsS w' ⟨Z, R, M, H, v, p⟩ o m { s with held := l.foldl hold1 s.held } ∧ Mod (· = H) w w' := by
  obtain ⟨A, c, rfl⟩ := Kd.R_slice hu.out
  have huH : ∀ b, (Value.slice A l.length c).ownBlock = some b → ¬ (b = H) := fun b hb e => hn b hb (.inr (.inl e))
  have hZH : Z ≠ H := h.out.n1
  obtain ⟨n, hn'⟩ : ∃ n, l.length = n := ⟨_, rfl⟩
  rw [hn'] at hu huH hl
  have HN := Lib.hid hn'
  rw [hn']
  clear hn' hn
  have HM0 := Lib.hid (Mod.refl (· = H) w)
  go_enter Tryd.func13, Tryd.ntmps13
  go_wp2_with fail
  go_loopg [8] n (fun kq v8 wr => ∃ (j : Nat), v8 = .int .i64 (j : Int) ∧ kq + j = n ∧ Hid (IsS wr ⟨Z, R, M, H, v, p⟩ o m { s with held := (l.take j).foldl hold1 s.held }) ∧ Hid (Mod (· = H) w wr))
  case atStart => exact ⟨0, rfl, rfl, h, HM0⟩
  case round =>
    clear HM0 h
    obtain ⟨j, rfl, hk, H1, HM1⟩ := hrel
    cases gk with
    | zero =>
      have hj : j = n := by omega
      have c1 : decide ((j : Int) < (n : Int)) = false := decide_eq_false (by omega)
      have c1b : decide (j < n) = false := decide_eq_false (by omega)
      have HJ := Lib.hid hj
      clear hk hj
      go_wp2_with fail
      go_end0
      refine ⟨rfl, ?_, HM1.out⟩
      have z := H1.out
      rw [HJ.out, ← HN.out, List.take_length] at z
      exact z
    | succ k1 =>
      have hj : j < n := by omega
      have hjl : j < l.length := by rw [HN.out]; exact hj
      have c1 : decide ((j : Int) < (n : Int)) = true := decide_eq_true (by omega)
      have c1b : decide (j < n) = true := decide_eq_true hj
      have p1 : (0 ≤ (j : Int)) = True := eq_true (by omega)
      have p2 : ((j : Int) < (n : Int)) = True := eq_true (by omega)
      have q5 : IntKind.i64.wrap ((j : Int) + 1) = (j : Int) + 1 := IntWalk.i64_in _ (by omega)
      have hrr := Kd.R_reads' (row_on (α := Rf) rfl hu.out HM1.out huH)
      obtain ⟨ad, ead, x0, x1, x2⟩ := at_T44 hrr.2.2 (j : Int) (by omega) (by omega)
      have ex : rd_T44 l (j : Int) = l[j] := by
        unfold rd_T44
        simp [List.getD_eq_getElem?_getD, List.getElem?_eq_getElem hjl]
      rw [ex] at x0 x1 x2
      simp only [Int.toNat_natCast] at x0 x1 x2
      obtain ⟨x, hx⟩ : ∃ x, l[j] = x := ⟨_, rfl⟩
      rw [hx] at x0 x1 x2
      obtain ⟨L, hL⟩ : ∃ L, (l.take j).foldl hold1 s.held = L := ⟨_, rfl⟩
      have HF := Lib.hid (show (l.take (j + 1)).foldl hold1 s.held = hold1 L x by rw [fold_snoc hold1 s.held l j x hjl hx, hL])
      rw [hL] at H1
      have HX0 := Lib.hid x0
      have HX1 := Lib.hid x1
      have HX2 := Lib.hid x2
      obtain rfl : A = some ad := ead
      obtain ⟨G, hG⟩ : ∃ G, getH L x = G := ⟨_, rfl⟩
      have HG := Lib.hid hG
      clear hx ex x0 x1 x2 hL hrr hG
      go_upto_region 3 with (first
        | (refine wl_loadRf (ad.add (j * 3)) x HX0.out HX1.out HX2.out rfl _ rfl rfl ?_)
        | (refine wl_allocR rfl rfl ?_)
        | (refine wl_storeRn #[.int .i64 0, .int .i64 0, .int .u32 0] rfl x rfl _ _ rfl rfl rfl ?_))
      have hd : Below wr.heap.size wr (wr.alloc (Obj.cells (ra x) 44 (0, 0))) := (Below.refl _ _).alloc (Nat.le_refl _) _
      have hBl : H < wr.heap.size := H1.out.held.lt
      have HK3 := Lib.hid (heap_alloc_last wr (Obj.cells (ra x) 44 (0, 0)))
      have H3 := Lib.hid (H1.out.on hd)
      have HM3 := Lib.hid (HM1.out.on_below hd (Nat.le_refl _))
      obtain ⟨B, hB⟩ : ∃ B, wr.heap.size = B := ⟨_, rfl⟩
      rw [hB] at HK3 hBl
      simp only [hB]
      generalize (wr.alloc (Obj.cells (ra x) 44 (0, 0))) = w3 at *
      have hBH : ¬ (B = H) := by omega
      clear hd hB H1 HM1 HX0 HX1 HX2 hBl
      go_upto_region 4 with fail
      have hdd : Below w3.heap.size w3 (World.drew w3) := (Below.refl _ _).drew
      have H4 := Lib.hid (H3.out.on hdd)
      have HM4 := Lib.hid (HM3.out.on_below hdd (Nat.le_refl _))
      have HK4 := blk_to HK3 hdd
      clear hdd
      refine start_ (n := 10) (S := fun w' => w'.cell? ⟨Z, 10, none⟩ = some (.map (some H)) ∧ w'.heap[B]? = some (Obj.cells (ra x) 44 (0, 0)) ∧ (Instr.lookup 69 (.map (some H)) (.agg (ra x)) false).run Tryd.prog w' = .ok (.int .i64 G) w') (ds := [9]) #[false, false, false, false, false, false, false, false, false, false] (by kernel_rfl) rfl rfl ⟨H4.out.cs.2.2.2, HK4.out, (by rw [← HG.out]; exact look_H _ H L x H4.out.held)⟩ (fun hHeld => ?_)
      refine pure_ (i := 0) (N := some 14) (v := ?_) (a' := ?_) #[true, false, false, false, false, false, false, false, false, false] rfl rfl (by kernel_rfl) (fun _ _ _ h => h) (Or.inl ⟨by rfl, ?_⟩) ?_ ?_
      rotate_left
      · intro w'
        go_simp
        with_reducible rfl
      rotate_left
      · simp only [Act.put, List.setIfInBounds_toArray, List.set_cons_zero, List.set_cons_succ, i64_w, i32_w]
        rfl
      refine pure_ (i := 1) (N := some 15) (v := ?_) (a' := ?_) #[true, true, false, false, false, false, false, false, false, false] rfl rfl (by kernel_rfl) (fun _ _ _ h => h) (Or.inl ⟨by rfl, ?_⟩) ?_ ?_
      rotate_left
      · intro w'
        go_simp
        with_reducible rfl
      rotate_left
      · simp only [Act.put, List.setIfInBounds_toArray, List.set_cons_zero, List.set_cons_succ, i64_w, i32_w]
        rfl
      refine pure_ (i := 2) (N := some 16) (v := ?_) (a' := ?_) #[true, true, true, false, false, false, false, false, false, false] rfl rfl (by kernel_rfl) (fun _ _ _ h => h) (Or.inl ⟨by rfl, ?_⟩) ?_ ?_
      rotate_left
      · intro w'
        go_simp
        with_reducible rfl
      rotate_left
      · simp only [Act.put, List.setIfInBounds_toArray, List.set_cons_zero, List.set_cons_succ, i64_w, i32_w]
        rfl
      refine take_ (i := 3) (N := some 17) (v := ?_) (a' := ?_) #[true, true, true, true, false, false, false, false, false, false] rfl rfl (by kernel_rfl) (fun _ _ _ h => h) (Or.inl ⟨by rfl, ?_⟩) hHeld ?_ ?_
      rotate_left
      · rintro w' ⟨s0, s1, s2⟩
        go_simp
        with_reducible rfl
      rotate_left
      · simp only [Act.put, List.setIfInBounds_toArray, List.set_cons_zero, List.set_cons_succ, i64_w, i32_w]
        rfl
      refine take_ (i := 4) (N := some 18) (v := ?_) (a' := ?_) #[true, true, true, true, true, false, false, false, false, false] rfl rfl (by kernel_rfl) (fun _ _ _ h => h) (Or.inl ⟨by rfl, ?_⟩) hHeld ?_ ?_
      rotate_left
      · rintro w' ⟨s0, s1, s2⟩
        refine (exec_loadR (x := .tmp 5) ?_ ?_  s1).trans ?_
        · rfl
        · rfl
        · with_reducible rfl
      rotate_left
      · simp only [Act.put, List.setIfInBounds_toArray, List.set_cons_zero, List.set_cons_succ, i64_w, i32_w]
        rfl
      refine take_ (i := 5) (N := some 19) (v := ?_) (a' := ?_) #[true, true, true, true, true, true, false, false, false, false] rfl rfl (by kernel_rfl) (fun _ _ _ h => h) (Or.inl ⟨by rfl, ?_⟩) hHeld ?_ ?_
      rotate_left
      · rintro w' ⟨s0, s1, s2⟩
        refine (exec_look (x := .tmp 17) (y := .tmp 18) ?_ ?_ ?_  s2).trans ?_
        · rfl
        · rfl
        · rfl
        · with_reducible rfl
      rotate_left
      · simp only [Act.put, List.setIfInBounds_toArray, List.set_cons_zero, List.set_cons_succ, i64_w, i32_w]
        rfl
      refine pure_ (i := 6) (N := some 20) (v := ?_) (a' := ?_) #[true, true, true, true, true, true, true, false, false, false] rfl rfl (by kernel_rfl) (fun _ _ _ h => h) (Or.inl ⟨by rfl, ?_⟩) ?_ ?_
      rotate_left
      · intro w'
        go_simp
        with_reducible rfl
      rotate_left
      · simp only [Act.put, List.setIfInBounds_toArray, List.set_cons_zero, List.set_cons_succ, i64_w, i32_w]
        rfl
      refine one_ (i := 7) (N := some 21) #[true, true, true, true, true, true, true, true, false, false] rfl rfl (by kernel_rfl) (by decide) (fun K hK => ?_)
      obtain ⟨w5, st, he5, hh5, hm5, hs5, hst⟩ := entry_H _ H L x H4.out.held
      rw [HG.out] at he5 hh5
      refine value_ (by rfl) rfl (exec_entry rfl rfl rfl he5) ?_
      have H5 := Lib.hid (H4.out.setHeld hm5 hh5)
      have HM5 := Lib.hid (HM4.out.tr hm5)
      have HK5 := Lib.hid (hm5.blk HK4.out hBH)
      refine hK.out _ _ ⟨H5.out.cs.2.2.2, HK5.out, look_put hh5⟩ (fun hHeld => ?_)
      clear hK K
      refine norm_ (a' := ?_) ?_ ?_
      rotate_left
      · show Act.put _ (some 21) _ = _
        simp only [Act.put, List.setIfInBounds_toArray, List.set_cons_zero, List.set_cons_succ, i64_w, i32_w]
        rfl
      refine pure_ (i := 8) (N := some 22) (v := ?_) (a' := ?_) #[true, true, true, true, true, true, true, true, true, false] rfl rfl (by kernel_rfl) (fun _ _ _ h => h) (Or.inl ⟨by rfl, ?_⟩) ?_ ?_
      rotate_left
      · intro w'
        go_simp
        with_reducible rfl
      rotate_left
      · simp only [Act.put, List.setIfInBounds_toArray, List.set_cons_zero, List.set_cons_succ, i64_w, i32_w]
        rfl
      refine last_ (i := 9) (N := none) #[true, true, true, true, true, true, true, true, true, true] rfl rfl (by kernel_rfl) (by decide) (fun K hK => ?_)
      obtain ⟨w6, he6, hh6, hm6, hs6⟩ := hst w5 (wrap64 (G + 1)) rfl
      refine skip_ (by rfl) rfl (exec_estore rfl rfl rfl rfl he6) ?_
      have H6 := Lib.hid (H5.out.setHeld hm6 hh6)
      have HM6 := Lib.hid (HM5.out.tr hm6)
      have HK6 := Lib.hid (hm6.blk HK5.out hBH)
      refine hK.out _ _ ?_
      clear hK K
      refine done_ (by kernel_rfl) ?_
      clear hHeld H4 HM4 HK4 H5 HM5 HK5 he5 hh5 hm5 hs5 hst he6 hh6 hm6 hs6 HK3 H3 HM3 HK6
      go_wp2_with fail
      go_roundg k1
      case measure => exact Nat.lt_succ_self _
      case rel =>
        refine ⟨j + 1, by simp, by omega, Lib.hid ?_, HM6⟩
        rw [HF.out]
        unfold hold1
        rw [HG.out]
        exact H6.out
set_option maxHeartbeats 8000000 in
set_option maxRecDepth 100000 in
theorem Free_c (Z R M H : Nat) (v p u : Value) (o : Mni.Loc) (m : Man) (s : St) (l : List Rf) (w : World) (h : Hid (IsS w ⟨Z, R, M, H, v, p⟩ o m s)) (hl : l.length ≤ 1000000) (hu : Hid (rk.R 44 w 0 (fun _ => True) u l)) (hn : ∀ b, u.ownBlock = some b → ¬ Fs ⟨Z, R, M, H, v, p⟩ b) :
    Calls Tryd.prog 15 #[.pointer (some ⟨Z, 0, none⟩), u] w fun e w' => e = .returned (.tuple #[]) ∧ IsS w' ⟨Z, R, M, H, v, p⟩ o m { s with held := l.foldl free1 s.held } ∧ Mod (· = H) w w' := by
  obtain ⟨A, c, rfl⟩ := Kd.R_slice hu.out
  have huH : ∀ b, (Value.slice A l.length c).ownBlock = some b → ¬ (b = H) := fun b hb e => hn b hb (.inr (.inl e))
  have hZH : Z ≠ H := h.out.n1
  obtain ⟨n, hn'⟩ : ∃ n, l.length = n := ⟨_, rfl⟩
  rw [hn'] at hu huH hl
  have HN := Lib.hid hn'
  rw [hn']
  clear hn' hn
  have HM0 := Lib.hid (Mod.refl (· = H) w)
  go_enter Tryd.func15, Tryd.ntmps15
  go_wp2_with fail
  go_loopg [8] n (fun kq v8 wr => ∃ (j : Nat), v8 = .int .i64 (j : Int) ∧ kq + j = n ∧ Hid (IsS wr ⟨Z, R, M, H, v, p⟩ o m { s with held := (l.take j).foldl free1 s.held }) ∧ Hid (Mod (· = H) w wr))
  case atStart => exact ⟨0, rfl, rfl, h, HM0⟩
  case round =>
    clear HM0 h
    obtain ⟨j, rfl, hk, H1, HM1⟩ := hrel
    cases gk with
    | zero =>
      have hj : j = n := by omega
      have c1 : decide ((j : Int) < (n : Int)) = false := decide_eq_false (by omega)
      have c1b : decide (j < n) = false := decide_eq_false (by omega)
      have HJ := Lib.hid hj
      clear hk hj
      go_wp2_with fail
      go_end0
      refine ⟨rfl, ?_, HM1.out⟩
      have z := H1.out
      rw [HJ.out, ← HN.out, List.take_length] at z
      exact z
    | succ k1 =>
      have hj : j < n := by omega
      have hjl : j < l.length := by rw [HN.out]; exact hj
      have c1 : decide ((j : Int) < (n : Int)) = true := decide_eq_true (by omega)
      have c1b : decide (j < n) = true := decide_eq_true hj
      have p1 : (0 ≤ (j : Int)) = True := eq_true (by omega)
      have p2 : ((j : Int) < (n : Int)) = True := eq_true (by omega)
      have q5 : IntKind.i64.wrap ((j : Int) + 1) = (j : Int) + 1 := IntWalk.i64_in _ (by omega)
      have hrr := Kd.R_reads' (row_on (α := Rf) rfl hu.out HM1.out huH)
      obtain ⟨ad, ead, x0, x1, x2⟩ := at_T44 hrr.2.2 (j : Int) (by omega) (by omega)
      have ex : rd_T44 l (j : Int) = l[j] := by
        unfold rd_T44
        simp [List.getD_eq_getElem?_getD, List.getElem?_eq_getElem hjl]
      rw [ex] at x0 x1 x2
      simp only [Int.toNat_natCast] at x0 x1 x2
      obtain ⟨x, hx⟩ : ∃ x, l[j] = x := ⟨_, rfl⟩
      rw [hx] at x0 x1 x2
      obtain ⟨L, hL⟩ : ∃ L, (l.take j).foldl free1 s.held = L := ⟨_, rfl⟩
      have HF := Lib.hid (show (l.take (j + 1)).foldl free1 s.held = free1 L x by rw [fold_snoc free1 s.held l j x hjl hx, hL])
      rw [hL] at H1
      have HX0 := Lib.hid x0
      have HX1 := Lib.hid x1
      have HX2 := Lib.hid x2
      obtain rfl : A = some ad := ead
      obtain ⟨G, hG⟩ : ∃ G, getH L x = G := ⟨_, rfl⟩
      have HG := Lib.hid hG
      clear hx ex x0 x1 x2 hL hrr hG
      go_upto_region 3 with (first
        | (refine wl_loadRf (ad.add (j * 3)) x HX0.out HX1.out HX2.out rfl _ rfl rfl ?_)
        | (refine wl_allocR rfl rfl ?_)
        | (refine wl_storeRn #[.int .i64 0, .int .i64 0, .int .u32 0] rfl x rfl _ _ rfl rfl rfl ?_))
      have hd : Below wr.heap.size wr (wr.alloc (Obj.cells (ra x) 44 (0, 0))) := (Below.refl _ _).alloc (Nat.le_refl _) _
      have hBl : H < wr.heap.size := H1.out.held.lt
      have HK3 := Lib.hid (heap_alloc_last wr (Obj.cells (ra x) 44 (0, 0)))
      have H3 := Lib.hid (H1.out.on hd)
      have HM3 := Lib.hid (HM1.out.on_below hd (Nat.le_refl _))
      obtain ⟨B, hB⟩ : ∃ B, wr.heap.size = B := ⟨_, rfl⟩
      rw [hB] at HK3 hBl
      simp only [hB]
      generalize (wr.alloc (Obj.cells (ra x) 44 (0, 0))) = w3 at *
      have hBH : ¬ (B = H) := by omega
      clear hd hB H1 HM1 HX0 HX1 HX2 hBl
      go_upto_region 4 with fail
      have hdd : Below w3.heap.size w3 (World.drew w3) := (Below.refl _ _).drew
      have H4 := Lib.hid (H3.out.on hdd)
      have HM4 := Lib.hid (HM3.out.on_below hdd (Nat.le_refl _))
      have HK4 := blk_to HK3 hdd
      clear hdd
      refine start_ (n := 10) (S := fun w' => w'.cell? ⟨Z, 10, none⟩ = some (.map (some H)) ∧ w'.heap[B]? = some (Obj.cells (ra x) 44 (0, 0)) ∧ (Instr.lookup 69 (.map (some H)) (.agg (ra x)) false).run Tryd.prog w' = .ok (.int .i64 G) w') (ds := [9]) #[false, false, false, false, false, false, false, false, false, false] (by kernel_rfl) rfl rfl ⟨H4.out.cs.2.2.2, HK4.out, (by rw [← HG.out]; exact look_H _ H L x H4.out.held)⟩ (fun hHeld => ?_)
      refine pure_ (i := 0) (N := some 14) (v := ?_) (a' := ?_) #[true, false, false, false, false, false, false, false, false, false] rfl rfl (by kernel_rfl) (fun _ _ _ h => h) (Or.inl ⟨by rfl, ?_⟩) ?_ ?_
      rotate_left
      · intro w'
        go_simp
        with_reducible rfl
      rotate_left
      · simp only [Act.put, List.setIfInBounds_toArray, List.set_cons_zero, List.set_cons_succ, i64_w, i32_w]
        rfl
      refine pure_ (i := 1) (N := some 15) (v := ?_) (a' := ?_) #[true, true, false, false, false, false, false, false, false, false] rfl rfl (by kernel_rfl) (fun _ _ _ h => h) (Or.inl ⟨by rfl, ?_⟩) ?_ ?_
      rotate_left
      · intro w'
        go_simp
        with_reducible rfl
      rotate_left
      · simp only [Act.put, List.setIfInBounds_toArray, List.set_cons_zero, List.set_cons_succ, i64_w, i32_w]
        rfl
      refine pure_ (i := 2) (N := some 16) (v := ?_) (a' := ?_) #[true, true, true, false, false, false, false, false, false, false] rfl rfl (by kernel_rfl) (fun _ _ _ h => h) (Or.inl ⟨by rfl, ?_⟩) ?_ ?_
      rotate_left
      · intro w'
        go_simp
        with_reducible rfl
      rotate_left
      · simp only [Act.put, List.setIfInBounds_toArray, List.set_cons_zero, List.set_cons_succ, i64_w, i32_w]
        rfl
      refine take_ (i := 3) (N := some 17) (v := ?_) (a' := ?_) #[true, true, true, true, false, false, false, false, false, false] rfl rfl (by kernel_rfl) (fun _ _ _ h => h) (Or.inl ⟨by rfl, ?_⟩) hHeld ?_ ?_
      rotate_left
      · rintro w' ⟨s0, s1, s2⟩
        go_simp
        with_reducible rfl
      rotate_left
      · simp only [Act.put, List.setIfInBounds_toArray, List.set_cons_zero, List.set_cons_succ, i64_w, i32_w]
        rfl
      refine take_ (i := 4) (N := some 18) (v := ?_) (a' := ?_) #[true, true, true, true, true, false, false, false, false, false] rfl rfl (by kernel_rfl) (fun _ _ _ h => h) (Or.inl ⟨by rfl, ?_⟩) hHeld ?_ ?_
      rotate_left
      · rintro w' ⟨s0, s1, s2⟩
        refine (exec_loadR (x := .tmp 5) ?_ ?_  s1).trans ?_
        · rfl
        · rfl
        · with_reducible rfl
      rotate_left
      · simp only [Act.put, List.setIfInBounds_toArray, List.set_cons_zero, List.set_cons_succ, i64_w, i32_w]
        rfl
      refine take_ (i := 5) (N := some 19) (v := ?_) (a' := ?_) #[true, true, true, true, true, true, false, false, false, false] rfl rfl (by kernel_rfl) (fun _ _ _ h => h) (Or.inl ⟨by rfl, ?_⟩) hHeld ?_ ?_
      rotate_left
      · rintro w' ⟨s0, s1, s2⟩
        refine (exec_look (x := .tmp 17) (y := .tmp 18) ?_ ?_ ?_  s2).trans ?_
        · rfl
        · rfl
        · rfl
        · with_reducible rfl
      rotate_left
      · simp only [Act.put, List.setIfInBounds_toArray, List.set_cons_zero, List.set_cons_succ, i64_w, i32_w]
        rfl
      refine pure_ (i := 6) (N := some 20) (v := ?_) (a' := ?_) #[true, true, true, true, true, true, true, false, false, false] rfl rfl (by kernel_rfl) (fun _ _ _ h => h) (Or.inl ⟨by rfl, ?_⟩) ?_ ?_
      rotate_left
      · intro w'
        go_simp
        with_reducible rfl
      rotate_left
      · simp only [Act.put, List.setIfInBounds_toArray, List.set_cons_zero, List.set_cons_succ, i64_w, i32_w]
        rfl
      refine one_ (i := 7) (N := some 21) #[true, true, true, true, true, true, true, true, false, false] rfl rfl (by kernel_rfl) (by decide) (fun K hK => ?_)
      obtain ⟨w5, st, he5, hh5, hm5, hs5, hst⟩ := entry_H _ H L x H4.out.held
      rw [HG.out] at he5 hh5
      refine value_ (by rfl) rfl (exec_entry rfl rfl rfl he5) ?_
      have H5 := Lib.hid (H4.out.setHeld hm5 hh5)
      have HM5 := Lib.hid (HM4.out.tr hm5)
      have HK5 := Lib.hid (hm5.blk HK4.out hBH)
      refine hK.out _ _ ⟨H5.out.cs.2.2.2, HK5.out, look_put hh5⟩ (fun hHeld => ?_)
      clear hK K
      refine norm_ (a' := ?_) ?_ ?_
      rotate_left
      · show Act.put _ (some 21) _ = _
        simp only [Act.put, List.setIfInBounds_toArray, List.set_cons_zero, List.set_cons_succ, i64_w, i32_w]
        rfl
      refine pure_ (i := 8) (N := some 22) (v := ?_) (a' := ?_) #[true, true, true, true, true, true, true, true, true, false] rfl rfl (by kernel_rfl) (fun _ _ _ h => h) (Or.inl ⟨by rfl, ?_⟩) ?_ ?_
      rotate_left
      · intro w'
        go_simp
        with_reducible rfl
      rotate_left
      · simp only [Act.put, List.setIfInBounds_toArray, List.set_cons_zero, List.set_cons_succ, i64_w, i32_w]
        rfl
      refine last_ (i := 9) (N := none) #[true, true, true, true, true, true, true, true, true, true] rfl rfl (by kernel_rfl) (by decide) (fun K hK => ?_)
      obtain ⟨w6, he6, hh6, hm6, hs6⟩ := hst w5 (wrap64 (G - 1)) rfl
      refine skip_ (by rfl) rfl (exec_estore rfl rfl rfl rfl he6) ?_
      have H6 := Lib.hid (H5.out.setHeld hm6 hh6)
      have HM6 := Lib.hid (HM5.out.tr hm6)
      have HK6 := Lib.hid (hm6.blk HK5.out hBH)
      refine hK.out _ _ ?_
      clear hK K
      refine done_ (by kernel_rfl) ?_
      clear hHeld H4 HM4 HK4 H5 HM5 HK5 he5 hh5 hm5 hs5 hst he6 hh6 hm6 hs6 HK3 H3 HM3
      obtain ⟨G1, hG1⟩ : ∃ G1, wrap64 (G - 1) = G1 := ⟨_, rfl⟩
      have HG1 := Lib.hid hG1
      rw [hG1] at H6
      clear hG1
      go_upto_region 5 with fail
      have hdd : Below w6.heap.size w6 (World.drew w6) := (Below.refl _ _).drew
      have H7 := Lib.hid (H6.out.on hdd)
      have HM7 := Lib.hid (HM6.out.on_below hdd (Nat.le_refl _))
      have HK7 := blk_to HK6 hdd
      clear hdd H6 HM6 HK6
      by_cases hz : G1 ≤ 0
      · have t1 : decide (G1 ≤ 0) = true := decide_eq_true hz
        refine start_ (n := 7) (S := fun w' => w'.cell? ⟨Z, 10, none⟩ = some (.map (some H)) ∧ w'.heap[B]? = some (Obj.cells (ra x) 44 (0, 0)) ∧ (Instr.lookup 69 (.map (some H)) (.agg (ra x)) false).run Tryd.prog w' = .ok (.int .i64 G1) w') (ds := []) #[false, false, false, false, false, false, false] (by kernel_rfl) rfl rfl ⟨H7.out.cs.2.2.2, HK7.out, look_put H7.out.held⟩ (fun hHeld => ?_)
        refine pure_ (i := 0) (N := some 23) (v := ?_) (a' := ?_) #[true, false, false, false, false, false, false] rfl rfl (by kernel_rfl) (fun _ _ _ h => h) (Or.inl ⟨by rfl, ?_⟩) ?_ ?_
        rotate_left
        · intro w'
          go_simp
          with_reducible rfl
        rotate_left
        · simp only [Act.put, List.setIfInBounds_toArray, List.set_cons_zero, List.set_cons_succ, i64_w, i32_w]
          rfl
        refine pure_ (i := 1) (N := some 24) (v := ?_) (a' := ?_) #[true, true, false, false, false, false, false] rfl rfl (by kernel_rfl) (fun _ _ _ h => h) (Or.inl ⟨by rfl, ?_⟩) ?_ ?_
        rotate_left
        · intro w'
          go_simp
          with_reducible rfl
        rotate_left
        · simp only [Act.put, List.setIfInBounds_toArray, List.set_cons_zero, List.set_cons_succ, i64_w, i32_w]
          rfl
        refine pure_ (i := 2) (N := some 25) (v := ?_) (a' := ?_) #[true, true, true, false, false, false, false] rfl rfl (by kernel_rfl) (fun _ _ _ h => h) (Or.inl ⟨by rfl, ?_⟩) ?_ ?_
        rotate_left
        · intro w'
          go_simp
          with_reducible rfl
        rotate_left
        · simp only [Act.put, List.setIfInBounds_toArray, List.set_cons_zero, List.set_cons_succ, i64_w, i32_w]
          rfl
        refine take_ (i := 3) (N := some 26) (v := ?_) (a' := ?_) #[true, true, true, true, false, false, false] rfl rfl (by kernel_rfl) (fun _ _ _ h => h) (Or.inl ⟨by rfl, ?_⟩) hHeld ?_ ?_
        rotate_left
        · rintro w' ⟨s0, s1, s2⟩
          go_simp
          with_reducible rfl
        rotate_left
        · simp only [Act.put, List.setIfInBounds_toArray, List.set_cons_zero, List.set_cons_succ, i64_w, i32_w]
          rfl
        refine take_ (i := 4) (N := some 27) (v := ?_) (a' := ?_) #[true, true, true, true, true, false, false] rfl rfl (by kernel_rfl) (fun _ _ _ h => h) (Or.inl ⟨by rfl, ?_⟩) hHeld ?_ ?_
        rotate_left
        · rintro w' ⟨s0, s1, s2⟩
          refine (exec_loadR (x := .tmp 5) ?_ ?_  s1).trans ?_
          · rfl
          · rfl
          · with_reducible rfl
        rotate_left
        · simp only [Act.put, List.setIfInBounds_toArray, List.set_cons_zero, List.set_cons_succ, i64_w, i32_w]
          rfl
        refine take_ (i := 5) (N := some 28) (v := ?_) (a' := ?_) #[true, true, true, true, true, true, false] rfl rfl (by kernel_rfl) (fun _ _ _ h => h) (Or.inl ⟨by rfl, ?_⟩) hHeld ?_ ?_
        rotate_left
        · rintro w' ⟨s0, s1, s2⟩
          refine (exec_look (x := .tmp 26) (y := .tmp 27) ?_ ?_ ?_  s2).trans ?_
          · rfl
          · rfl
          · rfl
          · with_reducible rfl
        rotate_left
        · simp only [Act.put, List.setIfInBounds_toArray, List.set_cons_zero, List.set_cons_succ, i64_w, i32_w]
          rfl
        refine pure_ (i := 6) (N := some 29) (v := ?_) (a' := ?_) #[true, true, true, true, true, true, true] rfl rfl (by kernel_rfl) (fun _ _ _ h => h) (Or.inl ⟨by rfl, ?_⟩) ?_ ?_
        rotate_left
        · intro w'
          go_simp
          with_reducible rfl
        rotate_left
        · simp only [Act.put, List.setIfInBounds_toArray, List.set_cons_zero, List.set_cons_succ, i64_w, i32_w]
          rfl
        refine done_ (by kernel_rfl) ?_
        have HZ := Lib.hid hz
        clear hHeld hz
        generalize (World.drew w6) = w7 at *
        go_upto_region 6 with fail
        have hdd : Below w7.heap.size w7 (World.drew w7) := (Below.refl _ _).drew
        have H8 := Lib.hid (H7.out.on hdd)
        have HM8 := Lib.hid (HM7.out.on_below hdd (Nat.le_refl _))
        have HK8 := blk_to HK7 hdd
        clear hdd H7 HM7 HK7
        refine start_ (n := 6) (S := fun w' => w'.cell? ⟨Z, 10, none⟩ = some (.map (some H)) ∧ w'.heap[B]? = some (Obj.cells (ra x) 44 (0, 0))) (ds := [5]) #[false, false, false, false, false, false] (by kernel_rfl) rfl rfl ⟨H8.out.cs.2.2.2, HK8.out⟩ (fun hHeld => ?_)
        refine pure_ (i := 0) (N := some 30) (v := ?_) (a' := ?_) #[true, false, false, false, false, false] rfl rfl (by kernel_rfl) (fun _ _ _ h => h) (Or.inl ⟨by rfl, ?_⟩) ?_ ?_
        rotate_left
        · intro w'
          go_simp
          with_reducible rfl
        rotate_left
        · simp only [Act.put, List.setIfInBounds_toArray, List.set_cons_zero, List.set_cons_succ, i64_w, i32_w]
          rfl
        refine pure_ (i := 1) (N := some 31) (v := ?_) (a' := ?_) #[true, true, false, false, false, false] rfl rfl (by kernel_rfl) (fun _ _ _ h => h) (Or.inl ⟨by rfl, ?_⟩) ?_ ?_
        rotate_left
        · intro w'
          go_simp
          with_reducible rfl
        rotate_left
        · simp only [Act.put, List.setIfInBounds_toArray, List.set_cons_zero, List.set_cons_succ, i64_w, i32_w]
          rfl
        refine pure_ (i := 2) (N := some 32) (v := ?_) (a' := ?_) #[true, true, true, false, false, false] rfl rfl (by kernel_rfl) (fun _ _ _ h => h) (Or.inl ⟨by rfl, ?_⟩) ?_ ?_
        rotate_left
        · intro w'
          go_simp
          with_reducible rfl
        rotate_left
        · simp only [Act.put, List.setIfInBounds_toArray, List.set_cons_zero, List.set_cons_succ, i64_w, i32_w]
          rfl
        refine take_ (i := 3) (N := some 33) (v := ?_) (a' := ?_) #[true, true, true, true, false, false] rfl rfl (by kernel_rfl) (fun _ _ _ h => h) (Or.inl ⟨by rfl, ?_⟩) hHeld ?_ ?_
        rotate_left
        · rintro w' ⟨s0, s1⟩
          go_simp
          with_reducible rfl
        rotate_left
        · simp only [Act.put, List.setIfInBounds_toArray, List.set_cons_zero, List.set_cons_succ, i64_w, i32_w]
          rfl
        refine take_ (i := 4) (N := some 34) (v := ?_) (a' := ?_) #[true, true, true, true, true, false] rfl rfl (by kernel_rfl) (fun _ _ _ h => h) (Or.inl ⟨by rfl, ?_⟩) hHeld ?_ ?_
        rotate_left
        · rintro w' ⟨s0, s1⟩
          refine (exec_loadR (x := .tmp 5) ?_ ?_  s1).trans ?_
          · rfl
          · rfl
          · with_reducible rfl
        rotate_left
        · simp only [Act.put, List.setIfInBounds_toArray, List.set_cons_zero, List.set_cons_succ, i64_w, i32_w]
          rfl
        refine last_ (i := 5) (N := none) #[true, true, true, true, true, true] rfl rfl (by kernel_rfl) (by decide) (fun K hK => ?_)
        have hdel := fun ty => del_H _ H _ x 69 44 ty rfl H8.out.held
        obtain ⟨w9, he9, hh9, hm9, hs9⟩ := del_all hdel
        refine value_ (by rfl) rfl (exec_del rfl rfl rfl he9) ?_
        have H9 := Lib.hid (H8.out.setHeld hm9 hh9)
        have HM9 := Lib.hid (HM8.out.tr hm9)
        refine hK.out _ _ ?_
        clear hK K
        refine done_ (by kernel_rfl) ?_
        clear hHeld H8 HM8 HK8 he9 hh9 hm9 hs9 hdel
        go_wp2_with fail
        go_roundg k1
        case measure => exact Nat.lt_succ_self _
        case rel =>
          refine ⟨j + 1, by simp, by omega, Lib.hid ?_, HM9⟩
          rw [HF.out]
          unfold free1
          rw [HG.out, HG1.out, if_pos HZ.out]
          exact H9.out
      · have t1 : decide (G1 ≤ 0) = false := decide_eq_false hz
        refine start_ (n := 7) (S := fun w' => w'.cell? ⟨Z, 10, none⟩ = some (.map (some H)) ∧ w'.heap[B]? = some (Obj.cells (ra x) 44 (0, 0)) ∧ (Instr.lookup 69 (.map (some H)) (.agg (ra x)) false).run Tryd.prog w' = .ok (.int .i64 G1) w') (ds := []) #[false, false, false, false, false, false, false] (by kernel_rfl) rfl rfl ⟨H7.out.cs.2.2.2, HK7.out, look_put H7.out.held⟩ (fun hHeld => ?_)
        refine pure_ (i := 0) (N := some 23) (v := ?_) (a' := ?_) #[true, false, false, false, false, false, false] rfl rfl (by kernel_rfl) (fun _ _ _ h => h) (Or.inl ⟨by rfl, ?_⟩) ?_ ?_
        rotate_left
        · intro w'
          go_simp
          with_reducible rfl
        rotate_left
        · simp only [Act.put, List.setIfInBounds_toArray, List.set_cons_zero, List.set_cons_succ, i64_w, i32_w]
          rfl
        refine pure_ (i := 1) (N := some 24) (v := ?_) (a' := ?_) #[true, true, false, false, false, false, false] rfl rfl (by kernel_rfl) (fun _ _ _ h => h) (Or.inl ⟨by rfl, ?_⟩) ?_ ?_
        rotate_left
        · intro w'
          go_simp
          with_reducible rfl
        rotate_left
        · simp only [Act.put, List.setIfInBounds_toArray, List.set_cons_zero, List.set_cons_succ, i64_w, i32_w]
          rfl
        refine pure_ (i := 2) (N := some 25) (v := ?_) (a' := ?_) #[true, true, true, false, false, false, false] rfl rfl (by kernel_rfl) (fun _ _ _ h => h) (Or.inl ⟨by rfl, ?_⟩) ?_ ?_
        rotate_left
        · intro w'
          go_simp
          with_reducible rfl
        rotate_left
        · simp only [Act.put, List.setIfInBounds_toArray, List.set_cons_zero, List.set_cons_succ, i64_w, i32_w]
          rfl
        refine take_ (i := 3) (N := some 26) (v := ?_) (a' := ?_) #[true, true, true, true, false, false, false] rfl rfl (by kernel_rfl) (fun _ _ _ h => h) (Or.inl ⟨by rfl, ?_⟩) hHeld ?_ ?_
        rotate_left
        · rintro w' ⟨s0, s1, s2⟩
          go_simp
          with_reducible rfl
        rotate_left
        · simp only [Act.put, List.setIfInBounds_toArray, List.set_cons_zero, List.set_cons_succ, i64_w, i32_w]
          rfl
        refine take_ (i := 4) (N := some 27) (v := ?_) (a' := ?_) #[true, true, true, true, true, false, false] rfl rfl (by kernel_rfl) (fun _ _ _ h => h) (Or.inl ⟨by rfl, ?_⟩) hHeld ?_ ?_
        rotate_left
        · rintro w' ⟨s0, s1, s2⟩
          refine (exec_loadR (x := .tmp 5) ?_ ?_  s1).trans ?_
          · rfl
          · rfl
          · with_reducible rfl
        rotate_left
        · simp only [Act.put, List.setIfInBounds_toArray, List.set_cons_zero, List.set_cons_succ, i64_w, i32_w]
          rfl
        refine take_ (i := 5) (N := some 28) (v := ?_) (a' := ?_) #[true, true, true, true, true, true, false] rfl rfl (by kernel_rfl) (fun _ _ _ h => h) (Or.inl ⟨by rfl, ?_⟩) hHeld ?_ ?_
        rotate_left
        · rintro w' ⟨s0, s1, s2⟩
          refine (exec_look (x := .tmp 26) (y := .tmp 27) ?_ ?_ ?_  s2).trans ?_
          · rfl
          · rfl
          · rfl
          · with_reducible rfl
        rotate_left
        · simp only [Act.put, List.setIfInBounds_toArray, List.set_cons_zero, List.set_cons_succ, i64_w, i32_w]
          rfl
        refine pure_ (i := 6) (N := some 29) (v := ?_) (a' := ?_) #[true, true, true, true, true, true, true] rfl rfl (by kernel_rfl) (fun _ _ _ h => h) (Or.inl ⟨by rfl, ?_⟩) ?_ ?_
        rotate_left
        · intro w'
          go_simp
          with_reducible rfl
        rotate_left
        · simp only [Act.put, List.setIfInBounds_toArray, List.set_cons_zero, List.set_cons_succ, i64_w, i32_w]
          rfl
        refine done_ (by kernel_rfl) ?_
        have HZ := Lib.hid hz
        clear hHeld hz HK7
        generalize (World.drew w6) = w7 at *
        go_wp2_with fail
        go_roundg k1
        case measure => exact Nat.lt_succ_self _
        case rel =>
          refine ⟨j + 1, by simp, by omega, Lib.hid ?_, HM7⟩
          rw [HF.out]
          unfold free1
          rw [HG.out, HG1.out, if_neg (by have := HZ.out; omega)]
          exact H7.out
set_option maxHeartbeats 4000000 in
theorem Forget_c (Z R M H : Nat) (v p : Value) (o : Mni.Loc) (m : Man) (s : St) (w : World) (h : Hid (IsS w ⟨Z, R, M, H, v, p⟩ o m s)) :
    Calls Tryd.prog 14 #[.pointer (some ⟨Z, 0, none⟩)] w fun e w' => e = .returned (.tuple #[]) ∧ IsS w' ⟨Z, R, M, H, v, .slice none 0 0⟩ o m { s with put := [] } ∧ Stp w ⟨Z, R, M, H, v, p⟩ w' ⟨Z, R, M, H, v, .slice none 0 0⟩ := by
  have c9 := h.out.cs.2.2.1
  have f9 : w.frozen? ⟨Z, 9, none⟩ = false := by
    have hb := h.out.blk
    have hb' : w.heap[Z]? = _ := hb
    simp [World.frozen?, hb']
  go_enter Tryd.func14, Tryd.ntmps14
  go_wp2_with fail
  go_end0
  have z := h.out.setPut (p' := .slice none 0 0) (l := []) (Mod.refl _ _) (Kd.R_nil _ _ _ _ _) (.inl rfl)
  exact ⟨rfl, z.1, z.2⟩
theorem Gen_c (Z R M H : Nat) (v p : Value) (o : Mni.Loc) (m : Man) (s : St) (w : World) (h : Hid (IsS w ⟨Z, R, M, H, v, p⟩ o m s)) :
    Calls Tryd.prog 18 #[.pointer (some ⟨Z, 0, none⟩)] w fun e w' => e = .returned (.int .u32 s.gen) ∧ Below w.heap.size w w' := by
  have c1 := h.out.cs.2.1
  go_enter Tryd.func18, Tryd.ntmps18
  go_wp2_with fail
  go_ret
  exact ⟨rfl, Below.refl _ _⟩
end Go.Proofs.YtaodgnladjafoaaDoor.Sto
