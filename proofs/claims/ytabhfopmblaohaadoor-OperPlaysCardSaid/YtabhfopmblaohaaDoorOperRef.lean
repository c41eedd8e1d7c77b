/- The document's ops: right, their bytes, many's. -/
import Derived.Test.YtabhfopmblaohaaDoorOper8
import Derived.Test.YtabhfopmblaohaaDoorRefFour
import Derived.Test.YtabhfopmblaohaaDoorRefSum
set_option linter.unusedVariables false
set_option linter.unusedSimpArgs false
namespace Go.Proofs.YtabhfopmblaohaaDoor.Opr
open Go.RowKit Go.Proofs.YtabhfopmblaohaaDoorW.PrintWords Go.Proofs.YtabhfopmblaohaaDoorW.PrintLast Go.Proofs.YtabhfopmblaohaaDoorW.PrintMore Go.Proofs.YtabhfopmblaohaaDoor.CdM Go.Proofs.YtabhfopmblaohaaDoor.Md
open Go.Proofs.YtabhfopmblaohaaDoor.Err (Laid IsErr code_nil code_c Chain at_some at_nil)
theorem rright_at (o : Op) : QOperPlays.shaleref18_Right.f o.d o.p o.q o.n o.s = some o.okB := by
  unfold QOperPlays.shaleref18_Right.f QOperPlays.shaleref14_Right.f
  by_cases h : o.Ok
  · rw [Op.okB_true.2 h]
    obtain ⟨a, b, c, d, e, f, g⟩ := h
    rw [if_pos a, if_pos b, if_pos (by omega), if_pos (by omega)]
    have e1 : decide ((o.s.size : Int) ≤ 256) = true := decide_eq_true (by omega)
    rw [e1, Option.bind_some, if_pos rfl, if_pos f, decide_eq_true g]
  · rw [Op.okB_false.2 h]
    rw [Op.ok_iff] at h
    by_cases a : o.d ≥ 0
    · rw [if_pos a]
      by_cases b : o.d ≤ 6
      · rw [if_pos b]
        by_cases c : (o.p.size : Int) ≤ 54
        · rw [if_pos c]
          by_cases d : (o.q.size : Int) ≤ 54
          · rw [if_pos d]
            by_cases e : (o.s.size : Int) ≤ 256
            · rw [decide_eq_true e, Option.bind_some, if_pos rfl]
              by_cases f : o.n ≥ -1073741824
              · rw [if_pos f, decide_eq_false (fun g => h ⟨a, b, by omega, by omega, by omega, f, g⟩)]
              · rw [if_neg f]
            · rw [decide_eq_false e]; rfl
          · rw [if_neg d]; rfl
        · rw [if_neg c]; rfl
      · rw [if_neg b]; rfl
    · rw [if_neg a]; rfl
theorem rright_c (o : Op) (w : World) : Calls Tryd.prog 13 #[.agg o.a] w fun e w' => e = .returned (.bool o.okB) ∧ Below w.heap.size w w' :=
  QOperPlays.shaleref18_Right.calls _ _ _ _ _ _ w (rright_at o)
theorem rn (x : Int) (t : ByteArray) (ht : Hid (numS x.toNat = t)) (h0 : 0 ≤ x) (h1 : x ≤ 4611686018427387904) (w : World) : Calls Tryd.prog 28 #[.int .i64 x] w fun e w' => e = .returned (.string t) ∧ Below w.heap.size w w' := by
  rw [← ht.out]; exact Rfn.rnum_v x h0 h1 w
set_option maxHeartbeats 8000000 in
set_option maxRecDepth 100000 in
theorem rlay_pos (o : Op) (w : World) (hok : Hid o.Ok) (hs : 0 ≤ o.n) : Calls Tryd.prog 14 #[.agg o.a] w fun e w' => e = .returned (.string o.lay) ∧ Below w.heap.size w w' := by
  obtain ⟨z1, z2, z3, z4, z5, z6, z7⟩ := (Op.ok_iff o).1 hok.out
  have ht : turnN o.n = (2 * o.n).toNat := by unfold turnN; rw [if_neg (by omega)]
  obtain ⟨n1, hn1⟩ : ∃ t, numS o.d.toNat = t := ⟨_, rfl⟩
  obtain ⟨n2, hn2⟩ : ∃ t, numS (o.p.size : Int).toNat = t := ⟨_, rfl⟩
  obtain ⟨n3, hn3⟩ : ∃ t, numS (o.q.size : Int).toNat = t := ⟨_, rfl⟩
  obtain ⟨n4, hn4⟩ : ∃ t, numS (2 * o.n).toNat = t := ⟨_, rfl⟩
  obtain ⟨n5, hn5⟩ : ∃ t, numS (o.s.size : Int).toNat = t := ⟨_, rfl⟩
  have y1 := numS_nine (n := o.d.toNat) (by omega)
  have y2 := numS_nine (n := (o.p.size : Int).toNat) (by omega)
  have y3 := numS_nine (n := (o.q.size : Int).toNat) (by omega)
  have y4 := numS_nine (n := (2 * o.n).toNat) (by omega)
  have y5 := numS_nine (n := (o.s.size : Int).toNat) (by omega)
  rw [hn1] at y1
  rw [hn2] at y2
  rw [hn3] at y3
  rw [hn4] at y4
  rw [hn5] at y5
  have HN1 := Lib.hid hn1
  have HN2 := Lib.hid hn2
  have HN3 := Lib.hid hn3
  have HN4 := Lib.hid hn4
  have HN5 := Lib.hid hn5
  have HL := Lib.hid (show n1 ++ n2 ++ o.p ++ n3 ++ o.q ++ n4 ++ n5 ++ o.s = o.lay from by
    unfold Op.lay strS
    rw [ht, ← hn1, ← hn2, ← hn3, ← hn4, ← hn5]
    simp only [ByteArray.append_assoc, Int.toNat_natCast])
  clear ht hn1 hn2 hn3 hn4 hn5
  have k1 : (9223372036854775807 < n1.size + n2.size) = False := eq_false (by omega)
  have k2 : (9223372036854775807 < n1.size + n2.size + o.p.size) = False := eq_false (by omega)
  have k3 : (9223372036854775807 < n1.size + n2.size + o.p.size + n3.size) = False := eq_false (by omega)
  have k4 : (9223372036854775807 < n1.size + n2.size + o.p.size + n3.size + o.q.size) = False := eq_false (by omega)
  have k5 : (9223372036854775807 < n1.size + n2.size + o.p.size + n3.size + o.q.size + n4.size) = False := eq_false (by omega)
  have k6 : (9223372036854775807 < n1.size + n2.size + o.p.size + n3.size + o.q.size + n4.size + n5.size) = False := eq_false (by omega)
  have k7 : (9223372036854775807 < n1.size + n2.size + o.p.size + n3.size + o.q.size + n4.size + n5.size + o.s.size) = False := eq_false (by omega)
  have w1 : IntKind.i64.wrap (2 * o.n) = 2 * o.n := IntWalk.i64_in _ (by omega)
  have d1 : decide (o.n < 0) = false := decide_eq_false (by omega)
  have HB0 := Lib.hid (heap_alloc_last w (Obj.cells o.a 23 (0, 0)))
  have c3 := (op_cells HB0).2.2.2.1
  go_enter Tryd.func14, Tryd.ntmps14
  go_wp2_with fail
  have hb1 : Below w.heap.size w (w.alloc (Obj.cells o.a 23 (0, 0))) := (Below.refl _ _).alloc (Nat.le_refl _) _
  have HX1 := Lib.hid hb1
  obtain ⟨B, hB⟩ : ∃ B, w.heap.size = B := ⟨_, rfl⟩
  rw [hB] at HB0
  simp only [hB]
  generalize (w.alloc (Obj.cells o.a 23 (0, 0))) = w2 at *
  clear hb1 c3
  have HD := Lib.hid (show Below w2.heap.size w2 w2.drew from (Below.refl _ _).drew)
  have hOp := fun {w' : World} (k : Below w2.heap.size w2 w') => op_cells (blk_to HB0 k)
  refine start_ (n := 31) (S := fun w' => w'.cell? ⟨B, 0, none⟩ = some (.int .i64 o.d) ∧ w'.cell? ⟨B, 1, none⟩ = some (.string o.p) ∧ w'.cell? ⟨B, 2, none⟩ = some (.string o.q) ∧ w'.cell? ⟨B, 3, none⟩ = some (.int .i64 o.n) ∧ w'.cell? ⟨B, 4, none⟩ = some (.string o.s)) (ds := []) #[false, false, false, false, false, false, false, false, false, false, false, false, false, false, false, false, false, false, false, false, false, false, false, false, false, false, false, false, false, false, false] (by kernel_rfl) rfl rfl ⟨(hOp HD.out).1, (hOp HD.out).2.1, (hOp HD.out).2.2.1, (hOp HD.out).2.2.2.1, (hOp HD.out).2.2.2.2⟩ (fun hHeld => ?_)
  refine pure_ (i := 0) (N := some 14) (v := ?_) (a' := ?_) #[true, false, false, false, false, false, false, false, false, false, false, false, false, false, false, false, false, false, false, false, false, false, false, false, false, false, false, false, false, false, false] rfl rfl (by kernel_rfl) (fun _ _ _ h => h) (Or.inl ⟨by rfl, ?_⟩) ?_ ?_
  rotate_left
  · intro w'
    go_simp
    with_reducible rfl
  rotate_left
  · simp only [Act.put, List.setIfInBounds_toArray, List.set_cons_zero, List.set_cons_succ, i64_w, i32_w]
    rfl
  refine pure_ (i := 3) (N := some 17) (v := ?_) (a' := ?_) #[true, false, false, true, false, false, false, false, false, false, false, false, false, false, false, false, false, false, false, false, false, false, false, false, false, false, false, false, false, false, false] rfl rfl (by kernel_rfl) (fun _ _ _ h => h) (Or.inl ⟨by rfl, ?_⟩) ?_ ?_
  rotate_left
  · intro w'
    go_simp
    with_reducible rfl
  rotate_left
  · simp only [Act.put, List.setIfInBounds_toArray, List.set_cons_zero, List.set_cons_succ, i64_w, i32_w]
    rfl
  refine pure_ (i := 8) (N := some 22) (v := ?_) (a' := ?_) #[true, false, false, true, false, false, false, false, true, false, false, false, false, false, false, false, false, false, false, false, false, false, false, false, false, false, false, false, false, false, false] rfl rfl (by kernel_rfl) (fun _ _ _ h => h) (Or.inl ⟨by rfl, ?_⟩) ?_ ?_
  rotate_left
  · intro w'
    go_simp
    with_reducible rfl
  rotate_left
  · simp only [Act.put, List.setIfInBounds_toArray, List.set_cons_zero, List.set_cons_succ, i64_w, i32_w]
    rfl
  refine pure_ (i := 11) (N := some 25) (v := ?_) (a' := ?_) #[true, false, false, true, false, false, false, false, true, false, false, true, false, false, false, false, false, false, false, false, false, false, false, false, false, false, false, false, false, false, false] rfl rfl (by kernel_rfl) (fun _ _ _ h => h) (Or.inl ⟨by rfl, ?_⟩) ?_ ?_
  rotate_left
  · intro w'
    go_simp
    with_reducible rfl
  rotate_left
  · simp only [Act.put, List.setIfInBounds_toArray, List.set_cons_zero, List.set_cons_succ, i64_w, i32_w]
    rfl
  refine pure_ (i := 16) (N := some 30) (v := ?_) (a' := ?_) #[true, false, false, true, false, false, false, false, true, false, false, true, false, false, false, false, true, false, false, false, false, false, false, false, false, false, false, false, false, false, false] rfl rfl (by kernel_rfl) (fun _ _ _ h => h) (Or.inl ⟨by rfl, ?_⟩) ?_ ?_
  rotate_left
  · intro w'
    go_simp
    with_reducible rfl
  rotate_left
  · simp only [Act.put, List.setIfInBounds_toArray, List.set_cons_zero, List.set_cons_succ, i64_w, i32_w]
    rfl
  refine pure_ (i := 19) (N := some 33) (v := ?_) (a' := ?_) #[true, false, false, true, false, false, false, false, true, false, false, true, false, false, false, false, true, false, false, true, false, false, false, false, false, false, false, false, false, false, false] rfl rfl (by kernel_rfl) (fun _ _ _ h => h) (Or.inl ⟨by rfl, ?_⟩) ?_ ?_
  rotate_left
  · intro w'
    go_simp
    with_reducible rfl
  rotate_left
  · simp only [Act.put, List.setIfInBounds_toArray, List.set_cons_zero, List.set_cons_succ, i64_w, i32_w]
    rfl
  refine pure_ (i := 22) (N := some 36) (v := ?_) (a' := ?_) #[true, false, false, true, false, false, false, false, true, false, false, true, false, false, false, false, true, false, false, true, false, false, true, false, false, false, false, false, false, false, false] rfl rfl (by kernel_rfl) (fun _ _ _ h => h) (Or.inl ⟨by rfl, ?_⟩) ?_ ?_
  rotate_left
  · intro w'
    go_simp
    with_reducible rfl
  rotate_left
  · simp only [Act.put, List.setIfInBounds_toArray, List.set_cons_zero, List.set_cons_succ, i64_w, i32_w]
    rfl
  refine pure_ (i := 27) (N := some 41) (v := ?_) (a' := ?_) #[true, false, false, true, false, false, false, false, true, false, false, true, false, false, false, false, true, false, false, true, false, false, true, false, false, false, false, true, false, false, false] rfl rfl (by kernel_rfl) (fun _ _ _ h => h) (Or.inl ⟨by rfl, ?_⟩) ?_ ?_
  rotate_left
  · intro w'
    go_simp
    with_reducible rfl
  rotate_left
  · simp only [Act.put, List.setIfInBounds_toArray, List.set_cons_zero, List.set_cons_succ, i64_w, i32_w]
    rfl
  refine take_ (i := 1) (N := some 15) (v := ?_) (a' := ?_) #[true, true, false, true, false, false, false, false, true, false, false, true, false, false, false, false, true, false, false, true, false, false, true, false, false, false, false, true, false, false, false] rfl rfl (by kernel_rfl) (fun _ _ _ h => h) (Or.inl ⟨by rfl, ?_⟩) hHeld ?_ ?_
  rotate_left
  · rintro w' ⟨s0, s1, s2, s3, s4⟩
    go_simp
    with_reducible rfl
  rotate_left
  · simp only [Act.put, List.setIfInBounds_toArray, List.set_cons_zero, List.set_cons_succ, i64_w, i32_w]
    rfl
  refine take_ (i := 4) (N := some 18) (v := ?_) (a' := ?_) #[true, true, false, true, true, false, false, false, true, false, false, true, false, false, false, false, true, false, false, true, false, false, true, false, false, false, false, true, false, false, false] rfl rfl (by kernel_rfl) (fun _ _ _ h => h) (Or.inl ⟨by rfl, ?_⟩) hHeld ?_ ?_
  rotate_left
  · rintro w' ⟨s0, s1, s2, s3, s4⟩
    go_simp
    with_reducible rfl
  rotate_left
  · simp only [Act.put, List.setIfInBounds_toArray, List.set_cons_zero, List.set_cons_succ, i64_w, i32_w]
    rfl
  refine pure_ (i := 5) (N := some 19) (v := ?_) (a' := ?_) #[true, true, false, true, true, true, false, false, true, false, false, true, false, false, false, false, true, false, false, true, false, false, true, false, false, false, false, true, false, false, false] rfl rfl (by kernel_rfl) (fun _ _ _ h => h) (Or.inl ⟨by rfl, ?_⟩) ?_ ?_
  rotate_left
  · intro w'
    go_simp
    with_reducible rfl
  rotate_left
  · simp only [Act.put, List.setIfInBounds_toArray, List.set_cons_zero, List.set_cons_succ, i64_w, i32_w]
    rfl
  refine take_ (i := 9) (N := some 23) (v := ?_) (a' := ?_) #[true, true, false, true, true, true, false, false, true, true, false, true, false, false, false, false, true, false, false, true, false, false, true, false, false, false, false, true, false, false, false] rfl rfl (by kernel_rfl) (fun _ _ _ h => h) (Or.inl ⟨by rfl, ?_⟩) hHeld ?_ ?_
  rotate_left
  · rintro w' ⟨s0, s1, s2, s3, s4⟩
    go_simp
    with_reducible rfl
  rotate_left
  · simp only [Act.put, List.setIfInBounds_toArray, List.set_cons_zero, List.set_cons_succ, i64_w, i32_w]
    rfl
  refine take_ (i := 12) (N := some 26) (v := ?_) (a' := ?_) #[true, true, false, true, true, true, false, false, true, true, false, true, true, false, false, false, true, false, false, true, false, false, true, false, false, false, false, true, false, false, false] rfl rfl (by kernel_rfl) (fun _ _ _ h => h) (Or.inl ⟨by rfl, ?_⟩) hHeld ?_ ?_
  rotate_left
  · rintro w' ⟨s0, s1, s2, s3, s4⟩
    go_simp
    with_reducible rfl
  rotate_left
  · simp only [Act.put, List.setIfInBounds_toArray, List.set_cons_zero, List.set_cons_succ, i64_w, i32_w]
    rfl
  refine pure_ (i := 13) (N := some 27) (v := ?_) (a' := ?_) #[true, true, false, true, true, true, false, false, true, true, false, true, true, true, false, false, true, false, false, true, false, false, true, false, false, false, false, true, false, false, false] rfl rfl (by kernel_rfl) (fun _ _ _ h => h) (Or.inl ⟨by rfl, ?_⟩) ?_ ?_
  rotate_left
  · intro w'
    go_simp
    with_reducible rfl
  rotate_left
  · simp only [Act.put, List.setIfInBounds_toArray, List.set_cons_zero, List.set_cons_succ, i64_w, i32_w]
    rfl
  refine take_ (i := 17) (N := some 31) (v := ?_) (a' := ?_) #[true, true, false, true, true, true, false, false, true, true, false, true, true, true, false, false, true, true, false, true, false, false, true, false, false, false, false, true, false, false, false] rfl rfl (by kernel_rfl) (fun _ _ _ h => h) (Or.inl ⟨by rfl, ?_⟩) hHeld ?_ ?_
  rotate_left
  · rintro w' ⟨s0, s1, s2, s3, s4⟩
    go_simp
    with_reducible rfl
  rotate_left
  · simp only [Act.put, List.setIfInBounds_toArray, List.set_cons_zero, List.set_cons_succ, i64_w, i32_w]
    rfl
  refine take_ (i := 23) (N := some 37) (v := ?_) (a' := ?_) #[true, true, false, true, true, true, false, false, true, true, false, true, true, true, false, false, true, true, false, true, false, false, true, true, false, false, false, true, false, false, false] rfl rfl (by kernel_rfl) (fun _ _ _ h => h) (Or.inl ⟨by rfl, ?_⟩) hHeld ?_ ?_
  rotate_left
  · rintro w' ⟨s0, s1, s2, s3, s4⟩
    go_simp
    with_reducible rfl
  rotate_left
  · simp only [Act.put, List.setIfInBounds_toArray, List.set_cons_zero, List.set_cons_succ, i64_w, i32_w]
    rfl
  refine pure_ (i := 24) (N := some 38) (v := ?_) (a' := ?_) #[true, true, false, true, true, true, false, false, true, true, false, true, true, true, false, false, true, true, false, true, false, false, true, true, true, false, false, true, false, false, false] rfl rfl (by kernel_rfl) (fun _ _ _ h => h) (Or.inl ⟨by rfl, ?_⟩) ?_ ?_
  rotate_left
  · intro w'
    go_simp
    with_reducible rfl
  rotate_left
  · simp only [Act.put, List.setIfInBounds_toArray, List.set_cons_zero, List.set_cons_succ, i64_w, i32_w]
    rfl
  refine take_ (i := 28) (N := some 42) (v := ?_) (a' := ?_) #[true, true, false, true, true, true, false, false, true, true, false, true, true, true, false, false, true, true, false, true, false, false, true, true, true, false, false, true, true, false, false] rfl rfl (by kernel_rfl) (fun _ _ _ h => h) (Or.inl ⟨by rfl, ?_⟩) hHeld ?_ ?_
  rotate_left
  · rintro w' ⟨s0, s1, s2, s3, s4⟩
    go_simp
    with_reducible rfl
  rotate_left
  · simp only [Act.put, List.setIfInBounds_toArray, List.set_cons_zero, List.set_cons_succ, i64_w, i32_w]
    rfl
  refine one_ (i := 2) (N := some 16) #[true, true, true, true, true, true, false, false, true, true, false, true, true, true, false, false, true, true, false, true, false, false, true, true, true, false, false, true, true, false, false] rfl rfl (by kernel_rfl) (by decide) (fun K hK => ?_)
  refine goes_ Tryd.func28 (by kernel_rfl) rfl #[.int .i64 o.d] (by rfl) rfl rfl (by simp only [List.map_toArray, List.map_cons, List.map_nil]; rfl) ?_
  with_reducible refine (rn o.d n1 HN1 (by omega) (by omega) _).mono ?_
  rintro e v10 ⟨rfl, hd⟩
  refine ⟨_, rfl, ?_⟩
  have Hv10 := Lib.hid (HD.out.trans (hd.mono HD.out.size))
  clear hd
  refine hK.out _ _ ⟨(hOp Hv10.out).1, (hOp Hv10.out).2.1, (hOp Hv10.out).2.2.1, (hOp Hv10.out).2.2.2.1, (hOp Hv10.out).2.2.2.2⟩ (fun hHeld => ?_)
  clear hK K
  refine norm_ (a' := ?_) ?_ ?_
  rotate_left
  · show Act.put _ (some 16) _ = _
    simp only [Act.put, List.setIfInBounds_toArray, List.set_cons_zero, List.set_cons_succ, i64_w, i32_w]
    rfl
  refine one_ (i := 6) (N := some 20) #[true, true, true, true, true, true, true, false, true, true, false, true, true, true, false, false, true, true, false, true, false, false, true, true, true, false, false, true, true, false, false] rfl rfl (by kernel_rfl) (by decide) (fun K hK => ?_)
  refine goes_ Tryd.func28 (by kernel_rfl) rfl #[.int .i64 (o.p.size : Int)] (by rfl) rfl rfl (by simp only [List.map_toArray, List.map_cons, List.map_nil]; rfl) ?_
  with_reducible refine (rn (o.p.size : Int) n2 HN2 (by omega) (by omega) _).mono ?_
  rintro e v11 ⟨rfl, hd⟩
  refine ⟨_, rfl, ?_⟩
  have Hv11 := Lib.hid (Hv10.out.trans (hd.mono Hv10.out.size))
  clear hd
  refine hK.out _ _ ⟨(hOp Hv11.out).1, (hOp Hv11.out).2.1, (hOp Hv11.out).2.2.1, (hOp Hv11.out).2.2.2.1, (hOp Hv11.out).2.2.2.2⟩ (fun hHeld => ?_)
  clear hK K
  refine norm_ (a' := ?_) ?_ ?_
  rotate_left
  · show Act.put _ (some 20) _ = _
    simp only [Act.put, List.setIfInBounds_toArray, List.set_cons_zero, List.set_cons_succ, i64_w, i32_w]
    rfl
  refine pure_ (i := 7) (N := some 21) (v := ?_) (a' := ?_) #[true, true, true, true, true, true, true, true, true, true, false, true, true, true, false, false, true, true, false, true, false, false, true, true, true, false, false, true, true, false, false] rfl rfl (by kernel_rfl) (fun _ _ _ h => h) (Or.inl ⟨by rfl, ?_⟩) ?_ ?_
  rotate_left
  · intro w'
    go_simp
    with_reducible rfl
  rotate_left
  · simp only [Act.put, List.setIfInBounds_toArray, List.set_cons_zero, List.set_cons_succ, i64_w, i32_w]
    rfl
  refine pure_ (i := 10) (N := some 24) (v := ?_) (a' := ?_) #[true, true, true, true, true, true, true, true, true, true, true, true, true, true, false, false, true, true, false, true, false, false, true, true, true, false, false, true, true, false, false] rfl rfl (by kernel_rfl) (fun _ _ _ h => h) (Or.inl ⟨by rfl, ?_⟩) ?_ ?_
  rotate_left
  · intro w'
    go_simp
    with_reducible rfl
  rotate_left
  · simp only [Act.put, List.setIfInBounds_toArray, List.set_cons_zero, List.set_cons_succ, i64_w, i32_w]
    rfl
  refine one_ (i := 14) (N := some 28) #[true, true, true, true, true, true, true, true, true, true, true, true, true, true, true, false, true, true, false, true, false, false, true, true, true, false, false, true, true, false, false] rfl rfl (by kernel_rfl) (by decide) (fun K hK => ?_)
  refine goes_ Tryd.func28 (by kernel_rfl) rfl #[.int .i64 (o.q.size : Int)] (by rfl) rfl rfl (by simp only [List.map_toArray, List.map_cons, List.map_nil]; rfl) ?_
  with_reducible refine (rn (o.q.size : Int) n3 HN3 (by omega) (by omega) _).mono ?_
  rintro e v12 ⟨rfl, hd⟩
  refine ⟨_, rfl, ?_⟩
  have Hv12 := Lib.hid (Hv11.out.trans (hd.mono Hv11.out.size))
  clear hd
  refine hK.out _ _ ⟨(hOp Hv12.out).1, (hOp Hv12.out).2.1, (hOp Hv12.out).2.2.1, (hOp Hv12.out).2.2.2.1, (hOp Hv12.out).2.2.2.2⟩ (fun hHeld => ?_)
  clear hK K
  refine norm_ (a' := ?_) ?_ ?_
  rotate_left
  · show Act.put _ (some 28) _ = _
    simp only [Act.put, List.setIfInBounds_toArray, List.set_cons_zero, List.set_cons_succ, i64_w, i32_w]
    rfl
  refine pure_ (i := 15) (N := some 29) (v := ?_) (a' := ?_) #[true, true, true, true, true, true, true, true, true, true, true, true, true, true, true, true, true, true, false, true, false, false, true, true, true, false, false, true, true, false, false] rfl rfl (by kernel_rfl) (fun _ _ _ h => h) (Or.inl ⟨by rfl, ?_⟩) ?_ ?_
  rotate_left
  · intro w'
    go_simp
    with_reducible rfl
  rotate_left
  · simp only [Act.put, List.setIfInBounds_toArray, List.set_cons_zero, List.set_cons_succ, i64_w, i32_w]
    rfl
  refine pure_ (i := 18) (N := some 32) (v := ?_) (a' := ?_) #[true, true, true, true, true, true, true, true, true, true, true, true, true, true, true, true, true, true, true, true, false, false, true, true, true, false, false, true, true, false, false] rfl rfl (by kernel_rfl) (fun _ _ _ h => h) (Or.inl ⟨by rfl, ?_⟩) ?_ ?_
  rotate_left
  · intro w'
    go_simp
    with_reducible rfl
  rotate_left
  · simp only [Act.put, List.setIfInBounds_toArray, List.set_cons_zero, List.set_cons_succ, i64_w, i32_w]
    rfl
  refine one_ (i := 20) (N := some 34) #[true, true, true, true, true, true, true, true, true, true, true, true, true, true, true, true, true, true, true, true, true, false, true, true, true, false, false, true, true, false, false] rfl rfl (by kernel_rfl) (by decide) (fun K hK => ?_)
  refine goes_ Tryd.func28 (by kernel_rfl) rfl #[.int .i64 (2 * o.n)] (by rfl) rfl rfl (by simp only [List.map_toArray, List.map_cons, List.map_nil]; rfl) ?_
  with_reducible refine (rn (2 * o.n) n4 HN4 (by omega) (by omega) _).mono ?_
  rintro e v13 ⟨rfl, hd⟩
  refine ⟨_, rfl, ?_⟩
  have Hv13 := Lib.hid (Hv12.out.trans (hd.mono Hv12.out.size))
  clear hd
  refine hK.out _ _ ⟨(hOp Hv13.out).1, (hOp Hv13.out).2.1, (hOp Hv13.out).2.2.1, (hOp Hv13.out).2.2.2.1, (hOp Hv13.out).2.2.2.2⟩ (fun hHeld => ?_)
  clear hK K
  refine norm_ (a' := ?_) ?_ ?_
  rotate_left
  · show Act.put _ (some 34) _ = _
    simp only [Act.put, List.setIfInBounds_toArray, List.set_cons_zero, List.set_cons_succ, i64_w, i32_w]
    rfl
  refine pure_ (i := 21) (N := some 35) (v := ?_) (a' := ?_) #[true, true, true, true, true, true, true, true, true, true, true, true, true, true, true, true, true, true, true, true, true, true, true, true, true, false, false, true, true, false, false] rfl rfl (by kernel_rfl) (fun _ _ _ h => h) (Or.inl ⟨by rfl, ?_⟩) ?_ ?_
  rotate_left
  · intro w'
    go_simp
    with_reducible rfl
  rotate_left
  · simp only [Act.put, List.setIfInBounds_toArray, List.set_cons_zero, List.set_cons_succ, i64_w, i32_w]
    rfl
  refine one_ (i := 25) (N := some 39) #[true, true, true, true, true, true, true, true, true, true, true, true, true, true, true, true, true, true, true, true, true, true, true, true, true, true, false, true, true, false, false] rfl rfl (by kernel_rfl) (by decide) (fun K hK => ?_)
  refine goes_ Tryd.func28 (by kernel_rfl) rfl #[.int .i64 (o.s.size : Int)] (by rfl) rfl rfl (by simp only [List.map_toArray, List.map_cons, List.map_nil]; rfl) ?_
  with_reducible refine (rn (o.s.size : Int) n5 HN5 (by omega) (by omega) _).mono ?_
  rintro e v14 ⟨rfl, hd⟩
  refine ⟨_, rfl, ?_⟩
  have Hv14 := Lib.hid (Hv13.out.trans (hd.mono Hv13.out.size))
  clear hd
  refine hK.out _ _ ⟨(hOp Hv14.out).1, (hOp Hv14.out).2.1, (hOp Hv14.out).2.2.1, (hOp Hv14.out).2.2.2.1, (hOp Hv14.out).2.2.2.2⟩ (fun hHeld => ?_)
  clear hK K
  refine norm_ (a' := ?_) ?_ ?_
  rotate_left
  · show Act.put _ (some 39) _ = _
    simp only [Act.put, List.setIfInBounds_toArray, List.set_cons_zero, List.set_cons_succ, i64_w, i32_w]
    rfl
  refine pure_ (i := 26) (N := some 40) (v := ?_) (a' := ?_) #[true, true, true, true, true, true, true, true, true, true, true, true, true, true, true, true, true, true, true, true, true, true, true, true, true, true, true, true, true, false, false] rfl rfl (by kernel_rfl) (fun _ _ _ h => h) (Or.inl ⟨by rfl, ?_⟩) ?_ ?_
  rotate_left
  · intro w'
    go_simp
    with_reducible rfl
  rotate_left
  · simp only [Act.put, List.setIfInBounds_toArray, List.set_cons_zero, List.set_cons_succ, i64_w, i32_w]
    rfl
  refine pure_ (i := 29) (N := some 43) (v := ?_) (a' := ?_) #[true, true, true, true, true, true, true, true, true, true, true, true, true, true, true, true, true, true, true, true, true, true, true, true, true, true, true, true, true, true, false] rfl rfl (by kernel_rfl) (fun _ _ _ h => h) (Or.inl ⟨by rfl, ?_⟩) ?_ ?_
  rotate_left
  · intro w'
    go_simp
    with_reducible rfl
  rotate_left
  · simp only [Act.put, List.setIfInBounds_toArray, List.set_cons_zero, List.set_cons_succ, i64_w, i32_w]
    rfl
  refine pure_ (i := 30) (N := some 2) (v := ?_) (a' := ?_) #[true, true, true, true, true, true, true, true, true, true, true, true, true, true, true, true, true, true, true, true, true, true, true, true, true, true, true, true, true, true, true] rfl rfl (by kernel_rfl) (fun _ _ _ h => h) (Or.inl ⟨by rfl, ?_⟩) ?_ ?_
  rotate_left
  · intro w'
    go_simp
    with_reducible rfl
  rotate_left
  · simp only [Act.put, List.setIfInBounds_toArray, List.set_cons_zero, List.set_cons_succ, i64_w, i32_w]
    rfl
  refine done_ (by kernel_rfl) ?_
  go_wp2_with fail
  go_ret
  exact ⟨by rw [HL.out]; rfl, hB ▸ (HX1.out.trans (Hv14.out.mono HX1.out.size))⟩
set_option maxHeartbeats 8000000 in
set_option maxRecDepth 100000 in
theorem rlay_neg (o : Op) (w : World) (hok : Hid o.Ok) (hs : o.n < 0) : Calls Tryd.prog 14 #[.agg o.a] w fun e w' => e = .returned (.string o.lay) ∧ Below w.heap.size w w' := by
  obtain ⟨z1, z2, z3, z4, z5, z6, z7⟩ := (Op.ok_iff o).1 hok.out
  have ht : turnN o.n = (-2 * o.n - 1).toNat := by unfold turnN; rw [if_pos hs]
  obtain ⟨n1, hn1⟩ : ∃ t, numS o.d.toNat = t := ⟨_, rfl⟩
  obtain ⟨n2, hn2⟩ : ∃ t, numS (o.p.size : Int).toNat = t := ⟨_, rfl⟩
  obtain ⟨n3, hn3⟩ : ∃ t, numS (o.q.size : Int).toNat = t := ⟨_, rfl⟩
  obtain ⟨n4, hn4⟩ : ∃ t, numS (-2 * o.n - 1).toNat = t := ⟨_, rfl⟩
  obtain ⟨n5, hn5⟩ : ∃ t, numS (o.s.size : Int).toNat = t := ⟨_, rfl⟩
  have y1 := numS_nine (n := o.d.toNat) (by omega)
  have y2 := numS_nine (n := (o.p.size : Int).toNat) (by omega)
  have y3 := numS_nine (n := (o.q.size : Int).toNat) (by omega)
  have y4 := numS_nine (n := (-2 * o.n - 1).toNat) (by omega)
  have y5 := numS_nine (n := (o.s.size : Int).toNat) (by omega)
  rw [hn1] at y1
  rw [hn2] at y2
  rw [hn3] at y3
  rw [hn4] at y4
  rw [hn5] at y5
  have HN1 := Lib.hid hn1
  have HN2 := Lib.hid hn2
  have HN3 := Lib.hid hn3
  have HN4 := Lib.hid hn4
  have HN5 := Lib.hid hn5
  have HL := Lib.hid (show n1 ++ n2 ++ o.p ++ n3 ++ o.q ++ n4 ++ n5 ++ o.s = o.lay from by
    unfold Op.lay strS
    rw [ht, ← hn1, ← hn2, ← hn3, ← hn4, ← hn5]
    simp only [ByteArray.append_assoc, Int.toNat_natCast])
  clear ht hn1 hn2 hn3 hn4 hn5
  have k1 : (9223372036854775807 < n1.size + n2.size) = False := eq_false (by omega)
  have k2 : (9223372036854775807 < n1.size + n2.size + o.p.size) = False := eq_false (by omega)
  have k3 : (9223372036854775807 < n1.size + n2.size + o.p.size + n3.size) = False := eq_false (by omega)
  have k4 : (9223372036854775807 < n1.size + n2.size + o.p.size + n3.size + o.q.size) = False := eq_false (by omega)
  have k5 : (9223372036854775807 < n1.size + n2.size + o.p.size + n3.size + o.q.size + n4.size) = False := eq_false (by omega)
  have k6 : (9223372036854775807 < n1.size + n2.size + o.p.size + n3.size + o.q.size + n4.size + n5.size) = False := eq_false (by omega)
  have k7 : (9223372036854775807 < n1.size + n2.size + o.p.size + n3.size + o.q.size + n4.size + n5.size + o.s.size) = False := eq_false (by omega)
  have w1 : IntKind.i64.wrap (2 * o.n) = 2 * o.n := IntWalk.i64_in _ (by omega)
  have d1 : decide (o.n < 0) = true := decide_eq_true hs
  have w2 : IntKind.i64.wrap (-2 * o.n) = -2 * o.n := IntWalk.i64_in _ (by omega)
  have w2b : IntKind.i64.wrap (-(2 * o.n)) = -2 * o.n := by rw [show -(2 * o.n) = -2 * o.n by omega]; exact w2
  have w3 : IntKind.i64.wrap (-2 * o.n - 1) = -2 * o.n - 1 := IntWalk.i64_in _ (by omega)
  have HB0 := Lib.hid (heap_alloc_last w (Obj.cells o.a 23 (0, 0)))
  have c3 := (op_cells HB0).2.2.2.1
  go_enter Tryd.func14, Tryd.ntmps14
  go_wp2_with fail
  have hb1 : Below w.heap.size w (w.alloc (Obj.cells o.a 23 (0, 0))) := (Below.refl _ _).alloc (Nat.le_refl _) _
  have HX1 := Lib.hid hb1
  obtain ⟨B, hB⟩ : ∃ B, w.heap.size = B := ⟨_, rfl⟩
  rw [hB] at HB0
  simp only [hB]
  generalize (w.alloc (Obj.cells o.a 23 (0, 0))) = w2 at *
  clear hb1 c3
  have HD := Lib.hid (show Below w2.heap.size w2 w2.drew from (Below.refl _ _).drew)
  have hOp := fun {w' : World} (k : Below w2.heap.size w2 w') => op_cells (blk_to HB0 k)
  refine start_ (n := 31) (S := fun w' => w'.cell? ⟨B, 0, none⟩ = some (.int .i64 o.d) ∧ w'.cell? ⟨B, 1, none⟩ = some (.string o.p) ∧ w'.cell? ⟨B, 2, none⟩ = some (.string o.q) ∧ w'.cell? ⟨B, 3, none⟩ = some (.int .i64 o.n) ∧ w'.cell? ⟨B, 4, none⟩ = some (.string o.s)) (ds := []) #[false, false, false, false, false, false, false, false, false, false, false, false, false, false, false, false, false, false, false, false, false, false, false, false, false, false, false, false, false, false, false] (by kernel_rfl) rfl rfl ⟨(hOp HD.out).1, (hOp HD.out).2.1, (hOp HD.out).2.2.1, (hOp HD.out).2.2.2.1, (hOp HD.out).2.2.2.2⟩ (fun hHeld => ?_)
  refine pure_ (i := 0) (N := some 14) (v := ?_) (a' := ?_) #[true, false, false, false, false, false, false, false, false, false, false, false, false, false, false, false, false, false, false, false, false, false, false, false, false, false, false, false, false, false, false] rfl rfl (by kernel_rfl) (fun _ _ _ h => h) (Or.inl ⟨by rfl, ?_⟩) ?_ ?_
  rotate_left
  · intro w'
    go_simp
    with_reducible rfl
  rotate_left
  · simp only [Act.put, List.setIfInBounds_toArray, List.set_cons_zero, List.set_cons_succ, i64_w, i32_w]
    rfl
  refine pure_ (i := 3) (N := some 17) (v := ?_) (a' := ?_) #[true, false, false, true, false, false, false, false, false, false, false, false, false, false, false, false, false, false, false, false, false, false, false, false, false, false, false, false, false, false, false] rfl rfl (by kernel_rfl) (fun _ _ _ h => h) (Or.inl ⟨by rfl, ?_⟩) ?_ ?_
  rotate_left
  · intro w'
    go_simp
    with_reducible rfl
  rotate_left
  · simp only [Act.put, List.setIfInBounds_toArray, List.set_cons_zero, List.set_cons_succ, i64_w, i32_w]
    rfl
  refine pure_ (i := 8) (N := some 22) (v := ?_) (a' := ?_) #[true, false, false, true, false, false, false, false, true, false, false, false, false, false, false, false, false, false, false, false, false, false, false, false, false, false, false, false, false, false, false] rfl rfl (by kernel_rfl) (fun _ _ _ h => h) (Or.inl ⟨by rfl, ?_⟩) ?_ ?_
  rotate_left
  · intro w'
    go_simp
    with_reducible rfl
  rotate_left
  · simp only [Act.put, List.setIfInBounds_toArray, List.set_cons_zero, List.set_cons_succ, i64_w, i32_w]
    rfl
  refine pure_ (i := 11) (N := some 25) (v := ?_) (a' := ?_) #[true, false, false, true, false, false, false, false, true, false, false, true, false, false, false, false, false, false, false, false, false, false, false, false, false, false, false, false, false, false, false] rfl rfl (by kernel_rfl) (fun _ _ _ h => h) (Or.inl ⟨by rfl, ?_⟩) ?_ ?_
  rotate_left
  · intro w'
    go_simp
    with_reducible rfl
  rotate_left
  · simp only [Act.put, List.setIfInBounds_toArray, List.set_cons_zero, List.set_cons_succ, i64_w, i32_w]
    rfl
  refine pure_ (i := 16) (N := some 30) (v := ?_) (a' := ?_) #[true, false, false, true, false, false, false, false, true, false, false, true, false, false, false, false, true, false, false, false, false, false, false, false, false, false, false, false, false, false, false] rfl rfl (by kernel_rfl) (fun _ _ _ h => h) (Or.inl ⟨by rfl, ?_⟩) ?_ ?_
  rotate_left
  · intro w'
    go_simp
    with_reducible rfl
  rotate_left
  · simp only [Act.put, List.setIfInBounds_toArray, List.set_cons_zero, List.set_cons_succ, i64_w, i32_w]
    rfl
  refine pure_ (i := 19) (N := some 33) (v := ?_) (a' := ?_) #[true, false, false, true, false, false, false, false, true, false, false, true, false, false, false, false, true, false, false, true, false, false, false, false, false, false, false, false, false, false, false] rfl rfl (by kernel_rfl) (fun _ _ _ h => h) (Or.inl ⟨by rfl, ?_⟩) ?_ ?_
  rotate_left
  · intro w'
    go_simp
    with_reducible rfl
  rotate_left
  · simp only [Act.put, List.setIfInBounds_toArray, List.set_cons_zero, List.set_cons_succ, i64_w, i32_w]
    rfl
  refine pure_ (i := 22) (N := some 36) (v := ?_) (a' := ?_) #[true, false, false, true, false, false, false, false, true, false, false, true, false, false, false, false, true, false, false, true, false, false, true, false, false, false, false, false, false, false, false] rfl rfl (by kernel_rfl) (fun _ _ _ h => h) (Or.inl ⟨by rfl, ?_⟩) ?_ ?_
  rotate_left
  · intro w'
    go_simp
    with_reducible rfl
  rotate_left
  · simp only [Act.put, List.setIfInBounds_toArray, List.set_cons_zero, List.set_cons_succ, i64_w, i32_w]
    rfl
  refine pure_ (i := 27) (N := some 41) (v := ?_) (a' := ?_) #[true, false, false, true, false, false, false, false, true, false, false, true, false, false, false, false, true, false, false, true, false, false, true, false, false, false, false, true, false, false, false] rfl rfl (by kernel_rfl) (fun _ _ _ h => h) (Or.inl ⟨by rfl, ?_⟩) ?_ ?_
  rotate_left
  · intro w'
    go_simp
    with_reducible rfl
  rotate_left
  · simp only [Act.put, List.setIfInBounds_toArray, List.set_cons_zero, List.set_cons_succ, i64_w, i32_w]
    rfl
  refine take_ (i := 1) (N := some 15) (v := ?_) (a' := ?_) #[true, true, false, true, false, false, false, false, true, false, false, true, false, false, false, false, true, false, false, true, false, false, true, false, false, false, false, true, false, false, false] rfl rfl (by kernel_rfl) (fun _ _ _ h => h) (Or.inl ⟨by rfl, ?_⟩) hHeld ?_ ?_
  rotate_left
  · rintro w' ⟨s0, s1, s2, s3, s4⟩
    go_simp
    with_reducible rfl
  rotate_left
  · simp only [Act.put, List.setIfInBounds_toArray, List.set_cons_zero, List.set_cons_succ, i64_w, i32_w]
    rfl
  refine take_ (i := 4) (N := some 18) (v := ?_) (a' := ?_) #[true, true, false, true, true, false, false, false, true, false, false, true, false, false, false, false, true, false, false, true, false, false, true, false, false, false, false, true, false, false, false] rfl rfl (by kernel_rfl) (fun _ _ _ h => h) (Or.inl ⟨by rfl, ?_⟩) hHeld ?_ ?_
  rotate_left
  · rintro w' ⟨s0, s1, s2, s3, s4⟩
    go_simp
    with_reducible rfl
  rotate_left
  · simp only [Act.put, List.setIfInBounds_toArray, List.set_cons_zero, List.set_cons_succ, i64_w, i32_w]
    rfl
  refine pure_ (i := 5) (N := some 19) (v := ?_) (a' := ?_) #[true, true, false, true, true, true, false, false, true, false, false, true, false, false, false, false, true, false, false, true, false, false, true, false, false, false, false, true, false, false, false] rfl rfl (by kernel_rfl) (fun _ _ _ h => h) (Or.inl ⟨by rfl, ?_⟩) ?_ ?_
  rotate_left
  · intro w'
    go_simp
    with_reducible rfl
  rotate_left
  · simp only [Act.put, List.setIfInBounds_toArray, List.set_cons_zero, List.set_cons_succ, i64_w, i32_w]
    rfl
  refine take_ (i := 9) (N := some 23) (v := ?_) (a' := ?_) #[true, true, false, true, true, true, false, false, true, true, false, true, false, false, false, false, true, false, false, true, false, false, true, false, false, false, false, true, false, false, false] rfl rfl (by kernel_rfl) (fun _ _ _ h => h) (Or.inl ⟨by rfl, ?_⟩) hHeld ?_ ?_
  rotate_left
  · rintro w' ⟨s0, s1, s2, s3, s4⟩
    go_simp
    with_reducible rfl
  rotate_left
  · simp only [Act.put, List.setIfInBounds_toArray, List.set_cons_zero, List.set_cons_succ, i64_w, i32_w]
    rfl
  refine take_ (i := 12) (N := some 26) (v := ?_) (a' := ?_) #[true, true, false, true, true, true, false, false, true, true, false, true, true, false, false, false, true, false, false, true, false, false, true, false, false, false, false, true, false, false, false] rfl rfl (by kernel_rfl) (fun _ _ _ h => h) (Or.inl ⟨by rfl, ?_⟩) hHeld ?_ ?_
  rotate_left
  · rintro w' ⟨s0, s1, s2, s3, s4⟩
    go_simp
    with_reducible rfl
  rotate_left
  · simp only [Act.put, List.setIfInBounds_toArray, List.set_cons_zero, List.set_cons_succ, i64_w, i32_w]
    rfl
  refine pure_ (i := 13) (N := some 27) (v := ?_) (a' := ?_) #[true, true, false, true, true, true, false, false, true, true, false, true, true, true, false, false, true, false, false, true, false, false, true, false, false, false, false, true, false, false, false] rfl rfl (by kernel_rfl) (fun _ _ _ h => h) (Or.inl ⟨by rfl, ?_⟩) ?_ ?_
  rotate_left
  · intro w'
    go_simp
    with_reducible rfl
  rotate_left
  · simp only [Act.put, List.setIfInBounds_toArray, List.set_cons_zero, List.set_cons_succ, i64_w, i32_w]
    rfl
  refine take_ (i := 17) (N := some 31) (v := ?_) (a' := ?_) #[true, true, false, true, true, true, false, false, true, true, false, true, true, true, false, false, true, true, false, true, false, false, true, false, false, false, false, true, false, false, false] rfl rfl (by kernel_rfl) (fun _ _ _ h => h) (Or.inl ⟨by rfl, ?_⟩) hHeld ?_ ?_
  rotate_left
  · rintro w' ⟨s0, s1, s2, s3, s4⟩
    go_simp
    with_reducible rfl
  rotate_left
  · simp only [Act.put, List.setIfInBounds_toArray, List.set_cons_zero, List.set_cons_succ, i64_w, i32_w]
    rfl
  refine take_ (i := 23) (N := some 37) (v := ?_) (a' := ?_) #[true, true, false, true, true, true, false, false, true, true, false, true, true, true, false, false, true, true, false, true, false, false, true, true, false, false, false, true, false, false, false] rfl rfl (by kernel_rfl) (fun _ _ _ h => h) (Or.inl ⟨by rfl, ?_⟩) hHeld ?_ ?_
  rotate_left
  · rintro w' ⟨s0, s1, s2, s3, s4⟩
    go_simp
    with_reducible rfl
  rotate_left
  · simp only [Act.put, List.setIfInBounds_toArray, List.set_cons_zero, List.set_cons_succ, i64_w, i32_w]
    rfl
  refine pure_ (i := 24) (N := some 38) (v := ?_) (a' := ?_) #[true, true, false, true, true, true, false, false, true, true, false, true, true, true, false, false, true, true, false, true, false, false, true, true, true, false, false, true, false, false, false] rfl rfl (by kernel_rfl) (fun _ _ _ h => h) (Or.inl ⟨by rfl, ?_⟩) ?_ ?_
  rotate_left
  · intro w'
    go_simp
    with_reducible rfl
  rotate_left
  · simp only [Act.put, List.setIfInBounds_toArray, List.set_cons_zero, List.set_cons_succ, i64_w, i32_w]
    rfl
  refine take_ (i := 28) (N := some 42) (v := ?_) (a' := ?_) #[true, true, false, true, true, true, false, false, true, true, false, true, true, true, false, false, true, true, false, true, false, false, true, true, true, false, false, true, true, false, false] rfl rfl (by kernel_rfl) (fun _ _ _ h => h) (Or.inl ⟨by rfl, ?_⟩) hHeld ?_ ?_
  rotate_left
  · rintro w' ⟨s0, s1, s2, s3, s4⟩
    go_simp
    with_reducible rfl
  rotate_left
  · simp only [Act.put, List.setIfInBounds_toArray, List.set_cons_zero, List.set_cons_succ, i64_w, i32_w]
    rfl
  refine one_ (i := 2) (N := some 16) #[true, true, true, true, true, true, false, false, true, true, false, true, true, true, false, false, true, true, false, true, false, false, true, true, true, false, false, true, true, false, false] rfl rfl (by kernel_rfl) (by decide) (fun K hK => ?_)
  refine goes_ Tryd.func28 (by kernel_rfl) rfl #[.int .i64 o.d] (by rfl) rfl rfl (by simp only [List.map_toArray, List.map_cons, List.map_nil]; rfl) ?_
  with_reducible refine (rn o.d n1 HN1 (by omega) (by omega) _).mono ?_
  rintro e v10 ⟨rfl, hd⟩
  refine ⟨_, rfl, ?_⟩
  have Hv10 := Lib.hid (HD.out.trans (hd.mono HD.out.size))
  clear hd
  refine hK.out _ _ ⟨(hOp Hv10.out).1, (hOp Hv10.out).2.1, (hOp Hv10.out).2.2.1, (hOp Hv10.out).2.2.2.1, (hOp Hv10.out).2.2.2.2⟩ (fun hHeld => ?_)
  clear hK K
  refine norm_ (a' := ?_) ?_ ?_
  rotate_left
  · show Act.put _ (some 16) _ = _
    simp only [Act.put, List.setIfInBounds_toArray, List.set_cons_zero, List.set_cons_succ, i64_w, i32_w]
    rfl
  refine one_ (i := 6) (N := some 20) #[true, true, true, true, true, true, true, false, true, true, false, true, true, true, false, false, true, true, false, true, false, false, true, true, true, false, false, true, true, false, false] rfl rfl (by kernel_rfl) (by decide) (fun K hK => ?_)
  refine goes_ Tryd.func28 (by kernel_rfl) rfl #[.int .i64 (o.p.size : Int)] (by rfl) rfl rfl (by simp only [List.map_toArray, List.map_cons, List.map_nil]; rfl) ?_
  with_reducible refine (rn (o.p.size : Int) n2 HN2 (by omega) (by omega) _).mono ?_
  rintro e v11 ⟨rfl, hd⟩
  refine ⟨_, rfl, ?_⟩
  have Hv11 := Lib.hid (Hv10.out.trans (hd.mono Hv10.out.size))
  clear hd
  refine hK.out _ _ ⟨(hOp Hv11.out).1, (hOp Hv11.out).2.1, (hOp Hv11.out).2.2.1, (hOp Hv11.out).2.2.2.1, (hOp Hv11.out).2.2.2.2⟩ (fun hHeld => ?_)
  clear hK K
  refine norm_ (a' := ?_) ?_ ?_
  rotate_left
  · show Act.put _ (some 20) _ = _
    simp only [Act.put, List.setIfInBounds_toArray, List.set_cons_zero, List.set_cons_succ, i64_w, i32_w]
    rfl
  refine pure_ (i := 7) (N := some 21) (v := ?_) (a' := ?_) #[true, true, true, true, true, true, true, true, true, true, false, true, true, true, false, false, true, true, false, true, false, false, true, true, true, false, false, true, true, false, false] rfl rfl (by kernel_rfl) (fun _ _ _ h => h) (Or.inl ⟨by rfl, ?_⟩) ?_ ?_
  rotate_left
  · intro w'
    go_simp
    with_reducible rfl
  rotate_left
  · simp only [Act.put, List.setIfInBounds_toArray, List.set_cons_zero, List.set_cons_succ, i64_w, i32_w]
    rfl
  refine pure_ (i := 10) (N := some 24) (v := ?_) (a' := ?_) #[true, true, true, true, true, true, true, true, true, true, true, true, true, true, false, false, true, true, false, true, false, false, true, true, true, false, false, true, true, false, false] rfl rfl (by kernel_rfl) (fun _ _ _ h => h) (Or.inl ⟨by rfl, ?_⟩) ?_ ?_
  rotate_left
  · intro w'
    go_simp
    with_reducible rfl
  rotate_left
  · simp only [Act.put, List.setIfInBounds_toArray, List.set_cons_zero, List.set_cons_succ, i64_w, i32_w]
    rfl
  refine one_ (i := 14) (N := some 28) #[true, true, true, true, true, true, true, true, true, true, true, true, true, true, true, false, true, true, false, true, false, false, true, true, true, false, false, true, true, false, false] rfl rfl (by kernel_rfl) (by decide) (fun K hK => ?_)
  refine goes_ Tryd.func28 (by kernel_rfl) rfl #[.int .i64 (o.q.size : Int)] (by rfl) rfl rfl (by simp only [List.map_toArray, List.map_cons, List.map_nil]; rfl) ?_
  with_reducible refine (rn (o.q.size : Int) n3 HN3 (by omega) (by omega) _).mono ?_
  rintro e v12 ⟨rfl, hd⟩
  refine ⟨_, rfl, ?_⟩
  have Hv12 := Lib.hid (Hv11.out.trans (hd.mono Hv11.out.size))
  clear hd
  refine hK.out _ _ ⟨(hOp Hv12.out).1, (hOp Hv12.out).2.1, (hOp Hv12.out).2.2.1, (hOp Hv12.out).2.2.2.1, (hOp Hv12.out).2.2.2.2⟩ (fun hHeld => ?_)
  clear hK K
  refine norm_ (a' := ?_) ?_ ?_
  rotate_left
  · show Act.put _ (some 28) _ = _
    simp only [Act.put, List.setIfInBounds_toArray, List.set_cons_zero, List.set_cons_succ, i64_w, i32_w]
    rfl
  refine pure_ (i := 15) (N := some 29) (v := ?_) (a' := ?_) #[true, true, true, true, true, true, true, true, true, true, true, true, true, true, true, true, true, true, false, true, false, false, true, true, true, false, false, true, true, false, false] rfl rfl (by kernel_rfl) (fun _ _ _ h => h) (Or.inl ⟨by rfl, ?_⟩) ?_ ?_
  rotate_left
  · intro w'
    go_simp
    with_reducible rfl
  rotate_left
  · simp only [Act.put, List.setIfInBounds_toArray, List.set_cons_zero, List.set_cons_succ, i64_w, i32_w]
    rfl
  refine pure_ (i := 18) (N := some 32) (v := ?_) (a' := ?_) #[true, true, true, true, true, true, true, true, true, true, true, true, true, true, true, true, true, true, true, true, false, false, true, true, true, false, false, true, true, false, false] rfl rfl (by kernel_rfl) (fun _ _ _ h => h) (Or.inl ⟨by rfl, ?_⟩) ?_ ?_
  rotate_left
  · intro w'
    go_simp
    with_reducible rfl
  rotate_left
  · simp only [Act.put, List.setIfInBounds_toArray, List.set_cons_zero, List.set_cons_succ, i64_w, i32_w]
    rfl
  refine one_ (i := 20) (N := some 34) #[true, true, true, true, true, true, true, true, true, true, true, true, true, true, true, true, true, true, true, true, true, false, true, true, true, false, false, true, true, false, false] rfl rfl (by kernel_rfl) (by decide) (fun K hK => ?_)
  refine goes_ Tryd.func28 (by kernel_rfl) rfl #[.int .i64 (-2 * o.n - 1)] (by rfl) rfl rfl (by simp only [List.map_toArray, List.map_cons, List.map_nil]; rfl) ?_
  with_reducible refine (rn (-2 * o.n - 1) n4 HN4 (by omega) (by omega) _).mono ?_
  rintro e v13 ⟨rfl, hd⟩
  refine ⟨_, rfl, ?_⟩
  have Hv13 := Lib.hid (Hv12.out.trans (hd.mono Hv12.out.size))
  clear hd
  refine hK.out _ _ ⟨(hOp Hv13.out).1, (hOp Hv13.out).2.1, (hOp Hv13.out).2.2.1, (hOp Hv13.out).2.2.2.1, (hOp Hv13.out).2.2.2.2⟩ (fun hHeld => ?_)
  clear hK K
  refine norm_ (a' := ?_) ?_ ?_
  rotate_left
  · show Act.put _ (some 34) _ = _
    simp only [Act.put, List.setIfInBounds_toArray, List.set_cons_zero, List.set_cons_succ, i64_w, i32_w]
    rfl
  refine pure_ (i := 21) (N := some 35) (v := ?_) (a' := ?_) #[true, true, true, true, true, true, true, true, true, true, true, true, true, true, true, true, true, true, true, true, true, true, true, true, true, false, false, true, true, false, false] rfl rfl (by kernel_rfl) (fun _ _ _ h => h) (Or.inl ⟨by rfl, ?_⟩) ?_ ?_
  rotate_left
  · intro w'
    go_simp
    with_reducible rfl
  rotate_left
  · simp only [Act.put, List.setIfInBounds_toArray, List.set_cons_zero, List.set_cons_succ, i64_w, i32_w]
    rfl
  refine one_ (i := 25) (N := some 39) #[true, true, true, true, true, true, true, true, true, true, true, true, true, true, true, true, true, true, true, true, true, true, true, true, true, true, false, true, true, false, false] rfl rfl (by kernel_rfl) (by decide) (fun K hK => ?_)
  refine goes_ Tryd.func28 (by kernel_rfl) rfl #[.int .i64 (o.s.size : Int)] (by rfl) rfl rfl (by simp only [List.map_toArray, List.map_cons, List.map_nil]; rfl) ?_
  with_reducible refine (rn (o.s.size : Int) n5 HN5 (by omega) (by omega) _).mono ?_
  rintro e v14 ⟨rfl, hd⟩
  refine ⟨_, rfl, ?_⟩
  have Hv14 := Lib.hid (Hv13.out.trans (hd.mono Hv13.out.size))
  clear hd
  refine hK.out _ _ ⟨(hOp Hv14.out).1, (hOp Hv14.out).2.1, (hOp Hv14.out).2.2.1, (hOp Hv14.out).2.2.2.1, (hOp Hv14.out).2.2.2.2⟩ (fun hHeld => ?_)
  clear hK K
  refine norm_ (a' := ?_) ?_ ?_
  rotate_left
  · show Act.put _ (some 39) _ = _
    simp only [Act.put, List.setIfInBounds_toArray, List.set_cons_zero, List.set_cons_succ, i64_w, i32_w]
    rfl
  refine pure_ (i := 26) (N := some 40) (v := ?_) (a' := ?_) #[true, true, true, true, true, true, true, true, true, true, true, true, true, true, true, true, true, true, true, true, true, true, true, true, true, true, true, true, true, false, false] rfl rfl (by kernel_rfl) (fun _ _ _ h => h) (Or.inl ⟨by rfl, ?_⟩) ?_ ?_
  rotate_left
  · intro w'
    go_simp
    with_reducible rfl
  rotate_left
  · simp only [Act.put, List.setIfInBounds_toArray, List.set_cons_zero, List.set_cons_succ, i64_w, i32_w]
    rfl
  refine pure_ (i := 29) (N := some 43) (v := ?_) (a' := ?_) #[true, true, true, true, true, true, true, true, true, true, true, true, true, true, true, true, true, true, true, true, true, true, true, true, true, true, true, true, true, true, false] rfl rfl (by kernel_rfl) (fun _ _ _ h => h) (Or.inl ⟨by rfl, ?_⟩) ?_ ?_
  rotate_left
  · intro w'
    go_simp
    with_reducible rfl
  rotate_left
  · simp only [Act.put, List.setIfInBounds_toArray, List.set_cons_zero, List.set_cons_succ, i64_w, i32_w]
    rfl
  refine pure_ (i := 30) (N := some 2) (v := ?_) (a' := ?_) #[true, true, true, true, true, true, true, true, true, true, true, true, true, true, true, true, true, true, true, true, true, true, true, true, true, true, true, true, true, true, true] rfl rfl (by kernel_rfl) (fun _ _ _ h => h) (Or.inl ⟨by rfl, ?_⟩) ?_ ?_
  rotate_left
  · intro w'
    go_simp
    with_reducible rfl
  rotate_left
  · simp only [Act.put, List.setIfInBounds_toArray, List.set_cons_zero, List.set_cons_succ, i64_w, i32_w]
    rfl
  refine done_ (by kernel_rfl) ?_
  go_wp2_with fail
  go_ret
  exact ⟨by rw [HL.out]; rfl, hB ▸ (HX1.out.trans (Hv14.out.mono HX1.out.size))⟩
theorem rlay_c (o : Op) (w : World) (hok : Hid o.Ok) : Calls Tryd.prog 14 #[.agg o.a] w fun e w' => e = .returned (.string o.lay) ∧ Below w.heap.size w w' := by
  by_cases h : o.n < 0
  · exact rlay_neg o w hok h
  · exact rlay_pos o w hok (by omega)
theorem sum_bd (s : ByteArray) : 0 ≤ AdM.sum s ∧ AdM.sum s < 4294967296 := by unfold AdM.sum AdM.A AdM.B; omega
set_option maxHeartbeats 8000000 in
set_option maxRecDepth 100000 in
theorem rlayall_c (A : Option Addr) (n c : Nat) (l : List Op) (w : World) (hl : l.length = n) (h : Hid (Kd.C opk w A n l)) (hn : n ≤ 60) (hc : n ≤ c) (hok : Hid (AllOk l)) :
    Calls Tryd.prog 17 #[.slice A n c] w fun e w' => e = .returned (.string (layAll l)) ∧ Below w.heap.size w w' := by
  go_enter Tryd.func17, Tryd.ntmps17
  go_wp2_with fail
  refine (rn (n : Int) (outs l 0) (Lib.hid (by show _ = numS l.length; rw [hl]; rfl)) (by omega) (by omega) _).mono ?_
  rintro e w1 ⟨rfl, hd⟩
  have HX1 := Lib.hid hd
  have HA1 := Lib.hid (Kd.C_below h.out hd)
  clear hd
  go_wp2_with fail
  go_loopg [3, 4] n (fun kq v0 v1 wr => ∃ (i : Nat), v0 = .string (outs l i) ∧ v1 = .int .i64 (i : Int) ∧ kq + i = n ∧ Hid (Below w.heap.size w wr) ∧ Hid (Kd.C opk wr A n l))
  case atStart => exact ⟨0, rfl, rfl, by omega, HX1, HA1⟩
  case round =>
    clear HX1 HA1 h
    obtain ⟨i, rfl, rfl, hk, HX, HA⟩ := hrel
    cases gk with
    | zero =>
      have hin : i = n := by omega
      have c1 : decide ((i : Int) < (n : Int)) = false := decide_eq_false (by omega)
      have c1' : decide (i < n) = false := decide_eq_false (by omega)
      have hso : (outs l i).size ≤ 9 + 409 * i := outs_size (by omega) i (by omega) (fun j hj _ => hok.out j hj)
      have hil : i = l.length := by omega
      obtain ⟨O, hO⟩ : ∃ O, outs l i = O := ⟨_, rfl⟩
      have HO := Lib.hid (show outs l l.length = O from by rw [← hO, hil])
      rw [hO] at hso ⊢
      clear hO hil hk
      go_wp2_with fail
      refine (RSm.refsum_c O (by omega) _).mono ?_
      rintro e w3 ⟨rfl, hd⟩
      have HX3 := Lib.hid (HX.out.trans (hd.mono HX.out.size))
      clear hd
      go_wp2_with fail
      refine (Rfn.rfour_c _ (sum_bd O) _).mono ?_
      rintro e w4 ⟨rfl, hd⟩
      have HX4 := Lib.hid (HX3.out.trans (hd.mono HX3.out.size))
      clear hd
      obtain ⟨F, hF⟩ : ∃ F, AdQ.fourS (AdM.sum O) = F := ⟨_, rfl⟩
      have hFs : F.size = 4 := by rw [← hF]; exact AdQ.fourS_size _
      have HF := Lib.hid (show O ++ F = layAll l from by unfold layAll; rw [HO.out, hF])
      rw [hF]
      clear hF
      have k5 : (9223372036854775807 < O.size + F.size) = False := eq_false (by omega)
      have k6 : (9223372036854775807 < O.size + 4) = False := eq_false (by omega)
      go_wp2_with fail
      go_ret
      exact ⟨by rw [HF.out]; rfl, HX4.out⟩
    | succ k1 =>
      have hin : i < n := by omega
      have hil : i < l.length := by omega
      have c1 : decide ((i : Int) < (n : Int)) = true := decide_eq_true (by omega)
      have c1' : decide (i < n) = true := decide_eq_true (by omega)
      have q5 : IntKind.i64.wrap ((i : Int) + 1) = (i : Int) + 1 := IntWalk.i64_in _ (by omega)
      have p1 : (0 ≤ (i : Int)) = True := eq_true (by omega)
      have p2 : ((i : Int) < (n : Int)) = True := eq_true (by omega)
      have HS := Lib.hid (outs_succ hil)
      have hso : (outs l i).size ≤ 9 + 409 * i := outs_size (by omega) i (by omega) (fun j hj _ => hok.out j hj)
      obtain ⟨ad, rfl, hat⟩ := op_at HA.out i hil
      have hokx := hok.out i hil
      obtain ⟨x, hx⟩ : ∃ x, l[i] = x := ⟨_, rfl⟩
      rw [hx] at hat HS hokx
      have HAt := Lib.hid hat
      have HOkx := Lib.hid hokx
      have hlx := Op.lay_size hokx
      obtain ⟨O, hO⟩ : ∃ O, outs l i = O := ⟨_, rfl⟩
      rw [hO] at hso HS
      rw [hO]
      clear hat hx hO hokx
      go_wp2_with (first | (refine wl_loadRat (ad.add (i * 5)) x HAt.out rfl _ rfl rfl ?_))
      refine (rlay_c x _ HOkx).mono ?_
      rintro e w3 ⟨rfl, hd⟩
      have HX3 := Lib.hid (HX.out.trans (hd.mono HX.out.size))
      have HA3 := Lib.hid (Kd.C_below HA.out hd)
      clear hd HX HA HAt
      obtain ⟨Y, hY⟩ : ∃ Y, x.lay = Y := ⟨_, rfl⟩
      rw [hY] at HS hlx ⊢
      clear hY
      have k5 : (9223372036854775807 < O.size + Y.size) = False := eq_false (by omega)
      go_wp2_with fail
      go_roundg k1
      case measure => exact Nat.lt_succ_self _
      case rel => exact ⟨i + 1, by rw [HS.out], by simp, by omega, HX3, HA3⟩
end Go.Proofs.YtabhfopmblaohaaDoor.Opr
