/- oper.ReadAll at any bytes. -/
import Derived.Test.YtabhfopmblaohaaDoorOper6
set_option linter.unusedVariables false
set_option linter.unusedSimpArgs false
namespace Go.Proofs.YtabhfopmblaohaaDoor.Opr
open Go.RowKit Go.Proofs.YtabhfopmblaohaaDoor.QOperBack Go.Proofs.YtabhfopmblaohaaDoorW.PrintWords Go.Proofs.YtabhfopmblaohaaDoorW.PrintLast Go.Proofs.YtabhfopmblaohaaDoorW.PrintMore Go.Proofs.YtabhfopmblaohaaDoor.CdM Go.Proofs.YtabhfopmblaohaaDoor.Md Go.Proofs.YtabhfopmblaohaaDoor.Rdr
open Go.WideShapes
open Go.Proofs.YtabhfopmblaohaaDoor.Err (Laid IsErr code_nil code_c Chain at_some at_nil)
open Go.Proofs.YtabhfopmblaohaaDoor.AdQ (fourS numV fourS_size)
open Go.Proofs.YtabhfopmblaohaaDoor.AdM (sum)
theorem infoO : (Tryd.prog.info? 30).map (fun i => (i.zero, i.size, i.bytes)) = some (some (.agg Op.zero.a), 5, 64) := by kernel_rfl
theorem litO1 (o : Op) (W : World) : (Instr.buildSlice 35 1 #[(0, .agg o.a)]).run Tryd.prog W = .ok (.slice (some ⟨W.heap.size, 0, none⟩) 1 1) (W.alloc (.cells (ocs o).toArray 30 (0, 0))) := by
  unfold Op.a ocs
  kernel_rfl
theorem exec_lit1 {ρ : Operand → Value} {oo : Oper} {x : Operand} {o : Op} (ho : oo.op = .buildSlice 35 1 #[(0, x)]) (hx : ρ x = .agg o.a) (W : World) : (execOp ρ oo).run Tryd.prog W = .ok (.value (.slice (some ⟨W.heap.size, 0, none⟩) 1 1)) (W.alloc (.cells (ocs o).toArray 30 (0, 0))) := by
  have hh := litO1 o W
  unfold execOp
  simp only [ho]
  have e : (#[((0 : Nat), x)] : Array (Nat × Operand)).map (fun (y : Nat × Operand) => (y.1, ρ y.2)) = #[(0, .agg o.a)] := by simp [hx]
  show (Sem.run _ (do let v ← Instr.buildSlice _ 1 (Array.map _ _); _) _) = _
  rw [e, Sem.run_bind, hh]
  rfl
def noR (R : Nat) (k : Nat) : Prop := k ≠ R
set_option maxHeartbeats 8000000 in
set_option maxRecDepth 100000 in
theorem rd_small (s : ByteArray) (w : World) (h : s.size < 5) : Calls Tryd.prog 19 #[.string s] w fun ev w' => ∃ v e, ev = .returned (.tuple #[v, e]) ∧ RdAll w w' s v e ∧ Below w.heap.size w w' := by
  have HBad := Lib.hid (show SumBad s from .inl h)
  have q0 : IntKind.i64.wrap ((s.size : Int) - 4) = (s.size : Int) - 4 := IntWalk.i64_in _ (by omega)
  have c0 : decide ((s.size : Int) - 4 < 1) = true := decide_eq_true (by omega)
  go_enter Tryd.func19, Tryd.ntmps19
  go_wp2_with fail
  refine start_ (n := 13) (S := fun w' => True) (ds := []) #[false, false, false, false, false, false, false, false, false, false, false, false, false] (by kernel_rfl) rfl rfl trivial (fun hHeld => ?_)
  refine pure_ (i := 0) (N := some 14) (v := ?_) (a' := ?_) #[true, false, false, false, false, false, false, false, false, false, false, false, false] rfl rfl (by kernel_rfl) (fun _ _ _ h => h) (Or.inl ⟨by rfl, ?_⟩) ?_ ?_
  rotate_left
  · intro w'
    go_simp
    with_reducible rfl
  rotate_left
  · simp only [Act.put, List.setIfInBounds_toArray, List.set_cons_zero, List.set_cons_succ, i64_w, i32_w]
    rfl
  refine pure_ (i := 1) (N := some 15) (v := ?_) (a' := ?_) #[true, true, false, false, false, false, false, false, false, false, false, false, false] rfl rfl (by kernel_rfl) (fun _ _ _ h => h) (Or.inl ⟨by rfl, ?_⟩) ?_ ?_
  rotate_left
  · intro w'
    go_simp
    with_reducible rfl
  rotate_left
  · simp only [Act.put, List.setIfInBounds_toArray, List.set_cons_zero, List.set_cons_succ, i64_w, i32_w]
    rfl
  refine pure_ (i := 2) (N := some 16) (v := ?_) (a' := ?_) #[true, true, true, false, false, false, false, false, false, false, false, false, false] rfl rfl (by kernel_rfl) (fun _ _ _ h => h) (Or.inl ⟨by rfl, ?_⟩) ?_ ?_
  rotate_left
  · intro w'
    go_simp
    with_reducible rfl
  rotate_left
  · simp only [Act.put, List.setIfInBounds_toArray, List.set_cons_zero, List.set_cons_succ, i64_w, i32_w]
    rfl
  refine pure_ (i := 3) (N := some 17) (v := undef) (a' := ?_) #[true, true, true, true, false, false, false, false, false, false, false, false, false] rfl rfl (by kernel_rfl) (fun _ _ _ h => h) (Or.inr ⟨by rfl, rfl⟩) ?_ ?_
  rotate_left
  · simp only [Act.put, List.setIfInBounds_toArray, List.set_cons_zero, List.set_cons_succ, i64_w, i32_w]
    rfl
  refine pure_ (i := 4) (N := some 18) (v := undef) (a' := ?_) #[true, true, true, true, true, false, false, false, false, false, false, false, false] rfl rfl (by kernel_rfl) (fun _ _ _ h => h) (Or.inr ⟨by rfl, rfl⟩) ?_ ?_
  rotate_left
  · simp only [Act.put, List.setIfInBounds_toArray, List.set_cons_zero, List.set_cons_succ, i64_w, i32_w]
    rfl
  refine pure_ (i := 5) (N := some 19) (v := undef) (a' := ?_) #[true, true, true, true, true, true, false, false, false, false, false, false, false] rfl rfl (by kernel_rfl) (fun _ _ _ h => h) (Or.inr ⟨by rfl, rfl⟩) ?_ ?_
  rotate_left
  · simp only [Act.put, List.setIfInBounds_toArray, List.set_cons_zero, List.set_cons_succ, i64_w, i32_w]
    rfl
  refine pure_ (i := 6) (N := some 20) (v := undef) (a' := ?_) #[true, true, true, true, true, true, true, false, false, false, false, false, false] rfl rfl (by kernel_rfl) (fun _ _ _ h => h) (Or.inr ⟨by rfl, rfl⟩) ?_ ?_
  rotate_left
  · simp only [Act.put, List.setIfInBounds_toArray, List.set_cons_zero, List.set_cons_succ, i64_w, i32_w]
    rfl
  refine pure_ (i := 7) (N := some 21) (v := undef) (a' := ?_) #[true, true, true, true, true, true, true, true, false, false, false, false, false] rfl rfl (by kernel_rfl) (fun _ _ _ h => h) (Or.inr ⟨by rfl, rfl⟩) ?_ ?_
  rotate_left
  · simp only [Act.put, List.setIfInBounds_toArray, List.set_cons_zero, List.set_cons_succ, i64_w, i32_w]
    rfl
  refine pure_ (i := 8) (N := some 22) (v := undef) (a' := ?_) #[true, true, true, true, true, true, true, true, true, false, false, false, false] rfl rfl (by kernel_rfl) (fun _ _ _ h => h) (Or.inr ⟨by rfl, rfl⟩) ?_ ?_
  rotate_left
  · simp only [Act.put, List.setIfInBounds_toArray, List.set_cons_zero, List.set_cons_succ, i64_w, i32_w]
    rfl
  refine pure_ (i := 9) (N := some 23) (v := undef) (a' := ?_) #[true, true, true, true, true, true, true, true, true, true, false, false, false] rfl rfl (by kernel_rfl) (fun _ _ _ h => h) (Or.inr ⟨by rfl, rfl⟩) ?_ ?_
  rotate_left
  · simp only [Act.put, List.setIfInBounds_toArray, List.set_cons_zero, List.set_cons_succ, i64_w, i32_w]
    rfl
  refine pure_ (i := 10) (N := some 24) (v := undef) (a' := ?_) #[true, true, true, true, true, true, true, true, true, true, true, false, false] rfl rfl (by kernel_rfl) (fun _ _ _ h => h) (Or.inr ⟨by rfl, rfl⟩) ?_ ?_
  rotate_left
  · simp only [Act.put, List.setIfInBounds_toArray, List.set_cons_zero, List.set_cons_succ, i64_w, i32_w]
    rfl
  refine pure_ (i := 11) (N := some 25) (v := undef) (a' := ?_) #[true, true, true, true, true, true, true, true, true, true, true, true, false] rfl rfl (by kernel_rfl) (fun _ _ _ h => h) (Or.inr ⟨by rfl, rfl⟩) ?_ ?_
  rotate_left
  · simp only [Act.put, List.setIfInBounds_toArray, List.set_cons_zero, List.set_cons_succ, i64_w, i32_w]
    rfl
  refine pure_ (i := 12) (N := some 26) (v := ?_) (a' := ?_) #[true, true, true, true, true, true, true, true, true, true, true, true, true] rfl rfl (by kernel_rfl) (fun _ _ _ h => h) (Or.inl ⟨by rfl, ?_⟩) ?_ ?_
  rotate_left
  · intro w'
    go_simp
    with_reducible rfl
  rotate_left
  · simp only [Act.put, List.setIfInBounds_toArray, List.set_cons_zero, List.set_cons_succ, i64_w, i32_w]
    rfl
  refine done_ (by kernel_rfl) ?_
  go_wp2_with fail
  refine (at_err _ _ 12 _).mono ?_
  rintro e w1 ⟨T, u, rfl, he, hd⟩
  have HE := Lib.hid he
  have HX := Lib.hid ((Below.refl w.heap.size w).drew.trans hd)
  clear he hd
  go_wp2_with fail
  go_ret2
  exact ⟨_, _, rfl, .inr ⟨rfl, fun l _ _ => not_laid HBad.out l, T, u, rfl, .inl ⟨HBad.out, HE.out⟩⟩, HX.out⟩
set_option maxHeartbeats 8000000 in
set_option maxRecDepth 100000 in
theorem rd_sum (s : ByteArray) (w : World) (h : 5 ≤ s.size) (hs : s.size ≤ 4611686018427387904) (hne : SumBad s) : Calls Tryd.prog 19 #[.string s] w fun ev w' => ∃ v e, ev = .returned (.tuple #[v, e]) ∧ RdAll w w' s v e ∧ Below w.heap.size w w' := by
  have HSz := Lib.hid hs
  obtain ⟨m, hm⟩ : ∃ m, s.size - 4 = m := ⟨_, rfl⟩
  have hm1 : 1 ≤ m := by omega
  have hms : m ≤ s.size := by omega
  have q0 : IntKind.i64.wrap ((s.size : Int) - 4) = (m : Int) := by rw [IntWalk.i64_in _ (by omega)]; omega
  have c0 : decide ((m : Int) < 1) = false := decide_eq_false (by omega)
  have c0b : decide (m < 1) = false := decide_eq_false (by omega)
  have p0 : (0 ≤ (m : Int)) = True := eq_true (by omega)
  have p1 : ((m : Int) ≤ (s.size : Int)) = True := eq_true (by omega)
  have p2 : (m ≤ s.size) = True := eq_true hms
  have ht4 : (s.extract m s.size).size = 4 := by rw [ext_size _ _ _ hms (Nat.le_refl _)]; omega
  have hbz : (s.extract 0 m).size = m := by rw [ext_size _ _ _ (by omega) hms]; omega
  obtain ⟨t, htt⟩ : ∃ t, s.extract m s.size = t := ⟨_, rfl⟩
  obtain ⟨b, hbb⟩ : ∃ b, s.extract 0 m = b := ⟨_, rfl⟩
  rw [htt] at ht4
  rw [hbb] at hbz
  have hbs : b.size ≤ 4611686018427387904 := by omega
  obtain ⟨nv, hnv⟩ : ∃ nv, numV t = nv := ⟨_, rfl⟩
  obtain ⟨sv, hsv⟩ : ∃ sv, sum b = sv := ⟨_, rfl⟩
  have HNv := Lib.hid hnv
  have HSv := Lib.hid hsv
  have HM := Lib.hid hm
  have HT := Lib.hid htt
  have HB := Lib.hid hbb
  have hnn : (nv != sv) = true := by
    have : nv ≠ sv := fun e => by
      rcases hne with h1 | h1
      · omega
      · rw [hm, htt, hbb, hnv, hsv] at h1; exact h1 e
    simpa using this
  have HBad := Lib.hid hne
  clear hm hnv hsv hms hs hne h
  go_enter Tryd.func19, Tryd.ntmps19
  go_wp2_with fail
  have HD := Lib.hid (show Below w.heap.size w w.drew from (Below.refl _ _).drew)
  (try simp only [htt, hbb])
  refine start_ (n := 13) (S := fun w' => True) (ds := []) #[false, false, false, false, false, false, false, false, false, false, false, false, false] (by kernel_rfl) rfl rfl trivial (fun hHeld => ?_)
  refine pure_ (i := 0) (N := some 14) (v := ?_) (a' := ?_) #[true, false, false, false, false, false, false, false, false, false, false, false, false] rfl rfl (by kernel_rfl) (fun _ _ _ h => h) (Or.inl ⟨by rfl, ?_⟩) ?_ ?_
  rotate_left
  · intro w'
    go_simp
    with_reducible rfl
  rotate_left
  · simp only [Act.put, List.setIfInBounds_toArray, List.set_cons_zero, List.set_cons_succ, i64_w, i32_w]
    rfl
  refine pure_ (i := 1) (N := some 15) (v := ?_) (a' := ?_) #[true, true, false, false, false, false, false, false, false, false, false, false, false] rfl rfl (by kernel_rfl) (fun _ _ _ h => h) (Or.inl ⟨by rfl, ?_⟩) ?_ ?_
  rotate_left
  · intro w'
    go_simp
    with_reducible rfl
  rotate_left
  · simp only [Act.put, List.setIfInBounds_toArray, List.set_cons_zero, List.set_cons_succ, i64_w, i32_w]
    rfl
  refine pure_ (i := 2) (N := some 16) (v := ?_) (a' := ?_) #[true, true, true, false, false, false, false, false, false, false, false, false, false] rfl rfl (by kernel_rfl) (fun _ _ _ h => h) (Or.inl ⟨by rfl, ?_⟩) ?_ ?_
  rotate_left
  · intro w'
    go_simp
    with_reducible rfl
  rotate_left
  · simp only [Act.put, List.setIfInBounds_toArray, List.set_cons_zero, List.set_cons_succ, i64_w, i32_w]
    rfl
  refine pure_ (i := 3) (N := some 17) (v := ?_) (a' := ?_) #[true, true, true, true, false, false, false, false, false, false, false, false, false] rfl rfl (by kernel_rfl) (fun _ _ _ h => h) (Or.inl ⟨by rfl, ?_⟩) ?_ ?_
  rotate_left
  · intro w'
    go_simp
    with_reducible rfl
  rotate_left
  · simp only [Act.put, List.setIfInBounds_toArray, List.set_cons_zero, List.set_cons_succ, i64_w, i32_w]
    rfl
  refine pure_ (i := 4) (N := some 18) (v := ?_) (a' := ?_) #[true, true, true, true, true, false, false, false, false, false, false, false, false] rfl rfl (by kernel_rfl) (fun _ _ _ h => h) (Or.inl ⟨by rfl, ?_⟩) ?_ ?_
  rotate_left
  · intro w'
    go_simp
    with_reducible rfl
  rotate_left
  · simp only [Act.put, List.setIfInBounds_toArray, List.set_cons_zero, List.set_cons_succ, i64_w, i32_w]
    rfl
  refine pure_ (i := 5) (N := some 19) (v := ?_) (a' := ?_) #[true, true, true, true, true, true, false, false, false, false, false, false, false] rfl rfl (by kernel_rfl) (fun _ _ _ h => h) (Or.inl ⟨by rfl, ?_⟩) ?_ ?_
  rotate_left
  · intro w'
    go_simp
    with_reducible rfl
  rotate_left
  · simp only [Act.put, List.setIfInBounds_toArray, List.set_cons_zero, List.set_cons_succ, i64_w, i32_w]
    rfl
  refine pure_ (i := 7) (N := some 21) (v := ?_) (a' := ?_) #[true, true, true, true, true, true, false, true, false, false, false, false, false] rfl rfl (by kernel_rfl) (fun _ _ _ h => h) (Or.inl ⟨by rfl, ?_⟩) ?_ ?_
  rotate_left
  · intro w'
    go_simp
    with_reducible rfl
  rotate_left
  · simp only [Act.put, List.setIfInBounds_toArray, List.set_cons_zero, List.set_cons_succ, i64_w, i32_w]
    rfl
  refine pure_ (i := 8) (N := some 22) (v := ?_) (a' := ?_) #[true, true, true, true, true, true, false, true, true, false, false, false, false] rfl rfl (by kernel_rfl) (fun _ _ _ h => h) (Or.inl ⟨by rfl, ?_⟩) ?_ ?_
  rotate_left
  · intro w'
    go_simp
    with_reducible rfl
  rotate_left
  · simp only [Act.put, List.setIfInBounds_toArray, List.set_cons_zero, List.set_cons_succ, i64_w, i32_w]
    rfl
  refine pure_ (i := 9) (N := some 23) (v := ?_) (a' := ?_) #[true, true, true, true, true, true, false, true, true, true, false, false, false] rfl rfl (by kernel_rfl) (fun _ _ _ h => h) (Or.inl ⟨by rfl, ?_⟩) ?_ ?_
  rotate_left
  · intro w'
    go_simp
    with_reducible rfl
  rotate_left
  · simp only [Act.put, List.setIfInBounds_toArray, List.set_cons_zero, List.set_cons_succ, i64_w, i32_w]
    rfl
  refine one_ (i := 6) (N := some 20) #[true, true, true, true, true, true, true, true, true, true, false, false, false] rfl rfl (by kernel_rfl) (by decide) (fun K hK => ?_)
  refine goes_ Tryd.func36 (by kernel_rfl) rfl #[.string t] (by rfl) rfl rfl (by simp only [List.map_toArray, List.map_cons, List.map_nil]; rfl) ?_
  with_reducible refine (AdQ.number_c t nv _ ht4 HNv).mono ?_
  rintro e v20 ⟨rfl, hd⟩
  refine ⟨_, rfl, ?_⟩
  have Hv20 := Lib.hid (HD.out.trans (hd.mono HD.out.size))
  clear hd
  refine hK.out _ _ trivial (fun hHeld => ?_)
  clear hK K
  refine norm_ (a' := ?_) ?_ ?_
  rotate_left
  · show Act.put _ (some 20) _ = _
    simp only [Act.put, List.setIfInBounds_toArray, List.set_cons_zero, List.set_cons_succ, i64_w, i32_w]
    rfl
  refine one_ (i := 10) (N := some 24) #[true, true, true, true, true, true, true, true, true, true, true, false, false] rfl rfl (by kernel_rfl) (by decide) (fun K hK => ?_)
  refine goes_ Tryd.func30 (by kernel_rfl) rfl #[.string b] (by rfl) rfl rfl (by simp only [List.map_toArray, List.map_cons, List.map_nil]; rfl) ?_
  with_reducible refine (AdQ.sum_c b _ hbs).mono ?_
  rintro e v21 ⟨rfl, hd⟩
  refine ⟨_, rfl, ?_⟩
  have Hv21 := Lib.hid (Hv20.out.trans (hd.mono Hv20.out.size))
  rw [HSv.out]
  clear hd
  refine hK.out _ _ trivial (fun hHeld => ?_)
  clear hK K
  refine norm_ (a' := ?_) ?_ ?_
  rotate_left
  · show Act.put _ (some 24) _ = _
    simp only [Act.put, List.setIfInBounds_toArray, List.set_cons_zero, List.set_cons_succ, i64_w, i32_w]
    rfl
  refine pure_ (i := 11) (N := some 25) (v := ?_) (a' := ?_) #[true, true, true, true, true, true, true, true, true, true, true, true, false] rfl rfl (by kernel_rfl) (fun _ _ _ h => h) (Or.inl ⟨by rfl, ?_⟩) ?_ ?_
  rotate_left
  · intro w'
    go_simp
    with_reducible rfl
  rotate_left
  · simp only [Act.put, List.setIfInBounds_toArray, List.set_cons_zero, List.set_cons_succ, i64_w, i32_w]
    rfl
  refine pure_ (i := 12) (N := some 26) (v := ?_) (a' := ?_) #[true, true, true, true, true, true, true, true, true, true, true, true, true] rfl rfl (by kernel_rfl) (fun _ _ _ h => h) (Or.inl ⟨by rfl, ?_⟩) ?_ ?_
  rotate_left
  · intro w'
    go_simp
    with_reducible rfl
  rotate_left
  · simp only [Act.put, List.setIfInBounds_toArray, List.set_cons_zero, List.set_cons_succ, i64_w, i32_w]
    rfl
  refine done_ (by kernel_rfl) ?_
  go_wp2_with fail
  refine (at_err _ _ 12 _).mono ?_
  rintro e w1 ⟨T, u, rfl, he, hd⟩
  have HE := Lib.hid he
  have HX := Lib.hid (Hv21.out.trans (hd.mono Hv21.out.size))
  clear he hd
  go_wp2_with fail
  go_ret2
  exact ⟨_, _, rfl, .inr ⟨rfl, fun l _ _ => not_laid HBad.out l, T, u, rfl, .inl ⟨HBad.out, HE.out⟩⟩, HX.out⟩
set_option maxHeartbeats 16000000 in
set_option maxRecDepth 100000 in
theorem rd_ok (s : ByteArray) (w : World) (h : 5 ≤ s.size) (hs : s.size ≤ 4611686018427387904) (hok : ¬ SumBad s) : Calls Tryd.prog 19 #[.string s] w fun ev w' => ∃ v e, ev = .returned (.tuple #[v, e]) ∧ RdAll w w' s v e ∧ Below w.heap.size w w' := by
  have HSz := Lib.hid hs
  obtain ⟨m, hm⟩ : ∃ m, s.size - 4 = m := ⟨_, rfl⟩
  have hm1 : 1 ≤ m := by omega
  have hms : m ≤ s.size := by omega
  have q0 : IntKind.i64.wrap ((s.size : Int) - 4) = (m : Int) := by rw [IntWalk.i64_in _ (by omega)]; omega
  have c0 : decide ((m : Int) < 1) = false := decide_eq_false (by omega)
  have c0b : decide (m < 1) = false := decide_eq_false (by omega)
  have p0 : (0 ≤ (m : Int)) = True := eq_true (by omega)
  have p1 : ((m : Int) ≤ (s.size : Int)) = True := eq_true (by omega)
  have p2 : (m ≤ s.size) = True := eq_true hms
  have ht4 : (s.extract m s.size).size = 4 := by rw [ext_size _ _ _ hms (Nat.le_refl _)]; omega
  have hbz : (s.extract 0 m).size = m := by rw [ext_size _ _ _ (by omega) hms]; omega
  obtain ⟨t, htt⟩ : ∃ t, s.extract m s.size = t := ⟨_, rfl⟩
  obtain ⟨b, hbb⟩ : ∃ b, s.extract 0 m = b := ⟨_, rfl⟩
  rw [htt] at ht4
  rw [hbb] at hbz
  have hbs : b.size ≤ 4611686018427387904 := by omega
  obtain ⟨nv, hnv⟩ : ∃ nv, numV t = nv := ⟨_, rfl⟩
  obtain ⟨sv, hsv⟩ : ∃ sv, sum b = sv := ⟨_, rfl⟩
  have HNv := Lib.hid hnv
  have HSv := Lib.hid hsv
  have HM := Lib.hid hm
  have HT := Lib.hid htt
  have HB := Lib.hid hbb
  have hnn : (nv != sv) = false := by
    have : nv = sv := Classical.not_not.1 fun e => hok (.inr (by rw [hm, htt, hbb, hnv, hsv]; exact e))
    simp [this]
  have HGood := Lib.hid hok
  have HBs := Lib.hid (show s.extract 0 (s.size - 4) = b by rw [hm, hbb])
  clear hm hnv hsv hms hs hok h
  go_enter Tryd.func19, Tryd.ntmps19
  go_wp2_with fail
  have HD := Lib.hid (show Below w.heap.size w w.drew from (Below.refl _ _).drew)
  (try simp only [htt, hbb])
  refine start_ (n := 13) (S := fun w' => True) (ds := []) #[false, false, false, false, false, false, false, false, false, false, false, false, false] (by kernel_rfl) rfl rfl trivial (fun hHeld => ?_)
  refine pure_ (i := 0) (N := some 14) (v := ?_) (a' := ?_) #[true, false, false, false, false, false, false, false, false, false, false, false, false] rfl rfl (by kernel_rfl) (fun _ _ _ h => h) (Or.inl ⟨by rfl, ?_⟩) ?_ ?_
  rotate_left
  · intro w'
    go_simp
    with_reducible rfl
  rotate_left
  · simp only [Act.put, List.setIfInBounds_toArray, List.set_cons_zero, List.set_cons_succ, i64_w, i32_w]
    rfl
  refine pure_ (i := 1) (N := some 15) (v := ?_) (a' := ?_) #[true, true, false, false, false, false, false, false, false, false, false, false, false] rfl rfl (by kernel_rfl) (fun _ _ _ h => h) (Or.inl ⟨by rfl, ?_⟩) ?_ ?_
  rotate_left
  · intro w'
    go_simp
    with_reducible rfl
  rotate_left
  · simp only [Act.put, List.setIfInBounds_toArray, List.set_cons_zero, List.set_cons_succ, i64_w, i32_w]
    rfl
  refine pure_ (i := 2) (N := some 16) (v := ?_) (a' := ?_) #[true, true, true, false, false, false, false, false, false, false, false, false, false] rfl rfl (by kernel_rfl) (fun _ _ _ h => h) (Or.inl ⟨by rfl, ?_⟩) ?_ ?_
  rotate_left
  · intro w'
    go_simp
    with_reducible rfl
  rotate_left
  · simp only [Act.put, List.setIfInBounds_toArray, List.set_cons_zero, List.set_cons_succ, i64_w, i32_w]
    rfl
  refine pure_ (i := 3) (N := some 17) (v := ?_) (a' := ?_) #[true, true, true, true, false, false, false, false, false, false, false, false, false] rfl rfl (by kernel_rfl) (fun _ _ _ h => h) (Or.inl ⟨by rfl, ?_⟩) ?_ ?_
  rotate_left
  · intro w'
    go_simp
    with_reducible rfl
  rotate_left
  · simp only [Act.put, List.setIfInBounds_toArray, List.set_cons_zero, List.set_cons_succ, i64_w, i32_w]
    rfl
  refine pure_ (i := 4) (N := some 18) (v := ?_) (a' := ?_) #[true, true, true, true, true, false, false, false, false, false, false, false, false] rfl rfl (by kernel_rfl) (fun _ _ _ h => h) (Or.inl ⟨by rfl, ?_⟩) ?_ ?_
  rotate_left
  · intro w'
    go_simp
    with_reducible rfl
  rotate_left
  · simp only [Act.put, List.setIfInBounds_toArray, List.set_cons_zero, List.set_cons_succ, i64_w, i32_w]
    rfl
  refine pure_ (i := 5) (N := some 19) (v := ?_) (a' := ?_) #[true, true, true, true, true, true, false, false, false, false, false, false, false] rfl rfl (by kernel_rfl) (fun _ _ _ h => h) (Or.inl ⟨by rfl, ?_⟩) ?_ ?_
  rotate_left
  · intro w'
    go_simp
    with_reducible rfl
  rotate_left
  · simp only [Act.put, List.setIfInBounds_toArray, List.set_cons_zero, List.set_cons_succ, i64_w, i32_w]
    rfl
  refine pure_ (i := 7) (N := some 21) (v := ?_) (a' := ?_) #[true, true, true, true, true, true, false, true, false, false, false, false, false] rfl rfl (by kernel_rfl) (fun _ _ _ h => h) (Or.inl ⟨by rfl, ?_⟩) ?_ ?_
  rotate_left
  · intro w'
    go_simp
    with_reducible rfl
  rotate_left
  · simp only [Act.put, List.setIfInBounds_toArray, List.set_cons_zero, List.set_cons_succ, i64_w, i32_w]
    rfl
  refine pure_ (i := 8) (N := some 22) (v := ?_) (a' := ?_) #[true, true, true, true, true, true, false, true, true, false, false, false, false] rfl rfl (by kernel_rfl) (fun _ _ _ h => h) (Or.inl ⟨by rfl, ?_⟩) ?_ ?_
  rotate_left
  · intro w'
    go_simp
    with_reducible rfl
  rotate_left
  · simp only [Act.put, List.setIfInBounds_toArray, List.set_cons_zero, List.set_cons_succ, i64_w, i32_w]
    rfl
  refine pure_ (i := 9) (N := some 23) (v := ?_) (a' := ?_) #[true, true, true, true, true, true, false, true, true, true, false, false, false] rfl rfl (by kernel_rfl) (fun _ _ _ h => h) (Or.inl ⟨by rfl, ?_⟩) ?_ ?_
  rotate_left
  · intro w'
    go_simp
    with_reducible rfl
  rotate_left
  · simp only [Act.put, List.setIfInBounds_toArray, List.set_cons_zero, List.set_cons_succ, i64_w, i32_w]
    rfl
  refine one_ (i := 6) (N := some 20) #[true, true, true, true, true, true, true, true, true, true, false, false, false] rfl rfl (by kernel_rfl) (by decide) (fun K hK => ?_)
  refine goes_ Tryd.func36 (by kernel_rfl) rfl #[.string t] (by rfl) rfl rfl (by simp only [List.map_toArray, List.map_cons, List.map_nil]; rfl) ?_
  with_reducible refine (AdQ.number_c t nv _ ht4 HNv).mono ?_
  rintro e v20 ⟨rfl, hd⟩
  refine ⟨_, rfl, ?_⟩
  have Hv20 := Lib.hid (HD.out.trans (hd.mono HD.out.size))
  clear hd
  refine hK.out _ _ trivial (fun hHeld => ?_)
  clear hK K
  refine norm_ (a' := ?_) ?_ ?_
  rotate_left
  · show Act.put _ (some 20) _ = _
    simp only [Act.put, List.setIfInBounds_toArray, List.set_cons_zero, List.set_cons_succ, i64_w, i32_w]
    rfl
  refine one_ (i := 10) (N := some 24) #[true, true, true, true, true, true, true, true, true, true, true, false, false] rfl rfl (by kernel_rfl) (by decide) (fun K hK => ?_)
  refine goes_ Tryd.func30 (by kernel_rfl) rfl #[.string b] (by rfl) rfl rfl (by simp only [List.map_toArray, List.map_cons, List.map_nil]; rfl) ?_
  with_reducible refine (AdQ.sum_c b _ hbs).mono ?_
  rintro e v21 ⟨rfl, hd⟩
  refine ⟨_, rfl, ?_⟩
  have Hv21 := Lib.hid (Hv20.out.trans (hd.mono Hv20.out.size))
  rw [HSv.out]
  clear hd
  refine hK.out _ _ trivial (fun hHeld => ?_)
  clear hK K
  refine norm_ (a' := ?_) ?_ ?_
  rotate_left
  · show Act.put _ (some 24) _ = _
    simp only [Act.put, List.setIfInBounds_toArray, List.set_cons_zero, List.set_cons_succ, i64_w, i32_w]
    rfl
  refine pure_ (i := 11) (N := some 25) (v := ?_) (a' := ?_) #[true, true, true, true, true, true, true, true, true, true, true, true, false] rfl rfl (by kernel_rfl) (fun _ _ _ h => h) (Or.inl ⟨by rfl, ?_⟩) ?_ ?_
  rotate_left
  · intro w'
    go_simp
    with_reducible rfl
  rotate_left
  · simp only [Act.put, List.setIfInBounds_toArray, List.set_cons_zero, List.set_cons_succ, i64_w, i32_w]
    rfl
  refine pure_ (i := 12) (N := some 26) (v := ?_) (a' := ?_) #[true, true, true, true, true, true, true, true, true, true, true, true, true] rfl rfl (by kernel_rfl) (fun _ _ _ h => h) (Or.inl ⟨by rfl, ?_⟩) ?_ ?_
  rotate_left
  · intro w'
    go_simp
    with_reducible rfl
  rotate_left
  · simp only [Act.put, List.setIfInBounds_toArray, List.set_cons_zero, List.set_cons_succ, i64_w, i32_w]
    rfl
  refine done_ (by kernel_rfl) ?_
  go_wp2_with fail
  (try rw [hbb])
  clear htt hbb c0 c0b q0 hnn ht4
  refine (new_v b _).mono ?_
  rintro e w2 ⟨R, hR, rfl, hH, hd⟩
  have HX2 := Lib.hid (Hv21.out.trans (hd.mono Hv21.out.size))
  have HR := Lib.hid (show w.heap.size ≤ R from Nat.le_trans Hv21.out.size hR)
  have HH2 := hH
  clear hd hR hH p0 p1 p2
  go_wp2_with fail
  refine (num_any R b 0 1000 _ HH2 hbs).mono ?_
  rintro e w3 ⟨n, e0, q, rfl, ha, hm3, hh⟩
  have HX3 := Lib.hid (HX2.out.trans (hm3.below HX2.out.size (fun i hi (e : i = R) => by have := HR.out; omega)))
  have HH3 := Lib.hid hh
  clear hm3 hh HX2 HH2
  rcases ha with ⟨count, ⟨hc0, hc1, hc2⟩, rfl, rfl, rfl⟩ | ⟨hno, rfl, ⟨T, x, rfl, hi⟩, rfl⟩
  · have HOn := Lib.hid (On.of_stands hc2)
    have hc1000 : count ≤ 1000 := by omega
    clear hc0 hc1 hc2
    go_wp2_with fail
    go_loopg [8, 42] count (fun kq v0 v1 wr => ∃ (i : Nat) (l : List Op), v1 = .int .i64 (i : Int) ∧ kq + i = count ∧ l.length = i ∧ Hid (AllOk l) ∧ Hid (On b 0 (numS count ++ catL l)) ∧ Hid (Has wr R b (numS count ++ catL l).size) ∧ Hid (Below w.heap.size w wr) ∧ Hid (Kd.R opk 30 wr w.heap.size (fun k => k ≠ R) v0 l))
    case atStart =>
      refine ⟨0, [], rfl, by omega, rfl, Lib.hid (fun j hj => absurd hj (by simp)), Lib.hid ?_, Lib.hid ?_, HX3, Lib.hid (Kd.R_nil _ _ _ _ _)⟩
      · show On b 0 (numS count ++ ⟨#[]⟩); rw [app_emp]; exact HOn.out
      · show Has w3 R b (numS count ++ (⟨#[]⟩ : ByteArray)).size
        rw [app_emp, numS_size]
        have h0 := HH3.out
        rw [Nat.zero_add] at h0
        exact h0
    case round =>
      clear HX3 HH3 HOn
      obtain ⟨i, l, rfl, hk, hll, HOk, HOn, HH, HX, HL⟩ := hrel
      cases gk with
      | zero =>
        have hin : i = count := by omega
        have c1 : decide ((i : Int) < (count : Int)) = false := decide_eq_false (by omega)
        have c1' : decide (i < count) = false := decide_eq_false (by omega)
        obtain ⟨pos, hpos⟩ : ∃ pos, (numS count ++ catL l).size = pos := ⟨_, rfl⟩
        have HPos := Lib.hid hpos
        rw [hpos] at HH
        have hple : pos ≤ b.size := by
          rw [← hpos]
          obtain ⟨r, hr⟩ := HOn.out.zero
          have h1 := congrArg ByteArray.size hr
          rw [ByteArray.size_append] at h1
          omega
        clear hpos
        go_wp2_with fail
        obtain ⟨L, hL⟩ : ∃ L : Int, (b.size : Int) - (pos : Int) = L := ⟨_, rfl⟩
        refine (left_v R b pos L _ HH hple hbs (Lib.hid hL)).mono ?_
        rintro e w5 ⟨rfl, _, hd⟩
        have HX5 := Lib.hid (HX.out.trans (hd.mono HX.out.size))
        have HL5 := Lib.hid (Kd.R_below HL.out hd)
        clear hd HX HL
        by_cases hlt : pos < b.size
        · have c2 : decide (L > 0) = true := decide_eq_true (by omega)
          have c2b : decide (0 < L) = true := decide_eq_true (by omega)
          have HNo := Lib.hid (fun l' h1 (h2 : l'.length ≤ 1000) => no_more HOn.out HOk.out (by omega) (by rw [HPos.out]; exact hlt) l' h1)
          clear hlt hple hk hL
          go_wp2_with fail
          refine (at_err _ _ 13 _).mono ?_
          rintro e w6 ⟨T, u, rfl, he, hd⟩
          have HE := Lib.hid he
          have HX6 := Lib.hid (HX5.out.trans (hd.mono HX5.out.size))
          clear he hd HX5 HL5
          go_wp2_with fail
          go_ret2
          exact ⟨_, _, rfl, .inr ⟨rfl, not_parts (fun l' h1 h2 => by rw [HBs.out]; exact HNo.out l' h1 h2), T, u, rfl, .inr ⟨HGood.out, HE.out⟩⟩, HX6.out⟩
        · have c2 : decide (L > 0) = false := decide_eq_false (by omega)
          have c2b : decide (0 < L) = false := decide_eq_false (by omega)
          have HAll := Lib.hid (laid_of HGood.out (l := l) (by rw [HBs.out]; exact all_read HOn.out (by omega) (by rw [HPos.out]; omega)))
          have hl1000 : l.length ≤ 1000 := by omega
          clear hlt hple hk hL
          go_wp2_with fail
          go_ret2
          exact ⟨_, _, rfl, .inl ⟨rfl, l, Kd.R_mono HL5.out (fun _ _ => trivial), HOk.out, hl1000, HAll.out⟩, HX5.out⟩
      | succ k1 =>
        have hin : i < count := by omega
        have c1 : decide ((i : Int) < (count : Int)) = true := decide_eq_true (by omega)
        have c1' : decide (i < count) = true := decide_eq_true (by omega)
        have q5 : IntKind.i64.wrap ((i : Int) + 1) = (i : Int) + 1 := IntWalk.i64_in _ (by omega)
        go_wp2_with fail
        refine (read_any R b _ _ HH hbs).mono ?_
        rintro e w4 ⟨o, e1, q1, rfl, hrd, hm4, hh⟩
        have HX4 := Lib.hid (HX.out.trans (hm4.below HX.out.size (fun i hi (e : i = R) => by have := HR.out; omega)))
        have HH4 := Lib.hid hh
        have HL4 := Lib.hid (Kd.R_step HL.out (fun k hk hlt => hm4.block k hlt hk))
        have hRl : R < w4.heap.size := Err.lt_of_block hh
        clear hm4 hh HX HH HL
        have hb5 : Below w4.heap.size w4 (w4.alloc (Obj.cells o.a 30 (0, 0))) := (Below.refl _ _).alloc (Nat.le_refl _) _
        have HV5 := Lib.hid (heap_alloc_last w4 (Obj.cells o.a 30 (0, 0)))
        have HX5 := Lib.hid (HX4.out.trans (hb5.mono HX4.out.size))
        have HH5 := Lib.hid (show Has (w4.alloc (Obj.cells o.a 30 (0, 0))) R b q1 from (hb5.block R hRl).trans HH4.out)
        have HL5 := Lib.hid (Kd.R_below HL4.out hb5)
        rcases hrd with ⟨rfl, ho1, ho2, rfl⟩ | ⟨⟨T, x, rfl, hi13⟩, rfl, hbad⟩
        · have HO1 := Lib.hid ho1
          have HOn' := Lib.hid (HOn.out.snoc ho2)
          have HPos := Lib.hid (show (numS count ++ catL l).size + o.lay.size = (numS count ++ catL (l ++ [o])).size by rw [catL_snoc, ← ByteArray.append_assoc]; exact ByteArray.size_append.symm)
          rw [HPos.out] at HH5
          clear ho1 ho2 HX4 HH4 HL4
          go_wp2_with (first
            | (refine wl_allocO rfl rfl ?_)
            | (refine wl_storeOn Op.zero.a rfl o rfl _ _ rfl rfl rfl ?_)
            | (refine wl_loadO w4.heap.size o HV5.out rfl _ rfl rfl ?_)
            | (refine Kd.event_run rfl (exec_lit1 (o := o) rfl rfl _) ?_)
            | (at_builtin; refine Kd.R_append opk (w0 := w) w.heap.size rfl (.tmp 52) (.tmp 54) 35 30 (.agg Op.zero.a) 64 rfl Tryd.underlying35 infoO rfl (by decide) (by decide) _ l o (ocs o) (fun k => k ≠ R) (fun _ => False) rfl rfl rfl (fun _ h => h.elim) (fun k hk => by have := HH5.out; have := Err.lt_of_block this; omega) HL5.out HX5.out HX5.out.size (by omega) ?_; intro v6 w6 hL6 hX6 hg6 hat6; have HL6 := Lib.hid hL6; have HX6 := Lib.hid hX6; have HG6 := Lib.hid hg6; clear hL6 hX6 hg6 hat6))
          have hne : some R ≠ u8.ownBlock := fun e => HL5.out.1 R e.symm rfl
          have HH6 := Lib.hid (show Has w6 R b (numS count ++ catL (l ++ [o])).size from (HG6.out.block R (Err.lt_of_block HH5.out) hne).trans HH5.out)
          go_roundg k1
          case measure => exact Nat.lt_succ_self _
          case rel => exact ⟨i + 1, l ++ [o], by simp, by omega, by simp [hll], Lib.hid (AllOk.snoc HOk.out HO1.out), HOn', HH6, HX6, HL6⟩
        · have HNo := Lib.hid (fun l' h1 (h2 : l'.length ≤ 1000) => no_op HOn.out HOk.out (by omega) hbad l' h1)
          have HE := Lib.hid (hi13.on hb5)
          clear hi13 hbad HX4 HH4 HL4
          go_wp2_with (first
            | (refine wl_allocO rfl rfl ?_)
            | (refine wl_storeOn Op.zero.a rfl Op.zero rfl _ _ rfl rfl rfl ?_))
          go_ret2
          exact ⟨_, _, rfl, .inr ⟨rfl, not_parts (fun l' h1 h2 => by rw [HBs.out]; exact HNo.out l' h1 h2), T, x, rfl, .inr ⟨HGood.out, HE.out⟩⟩, HX5.out⟩
  · have HNo := Lib.hid (fun l' (h1 : AllOk l') (h2 : l'.length ≤ 1000) => no_count hno l' h2)
    have HE := Lib.hid hi
    clear hno hi
    go_wp2_with fail
    go_ret2
    exact ⟨_, _, rfl, .inr ⟨rfl, not_parts (fun l' h1 h2 => by rw [HBs.out]; exact HNo.out l' h1 h2), T, x, rfl, .inr ⟨HGood.out, HE.out⟩⟩, HX3.out⟩
theorem readall_any (s : ByteArray) (w : World) (hs : s.size ≤ 4611686018427387904) : Calls Tryd.prog 19 #[.string s] w fun ev w' => ∃ v e, ev = .returned (.tuple #[v, e]) ∧ RdAll w w' s v e ∧ Below w.heap.size w w' := by
  by_cases h : s.size < 5
  · exact rd_small s w h
  · by_cases hb : SumBad s
    · exact rd_sum s w (by omega) hs hb
    · exact rd_ok s w (by omega) hs hb
end Go.Proofs.YtabhfopmblaohaaDoor.Opr
