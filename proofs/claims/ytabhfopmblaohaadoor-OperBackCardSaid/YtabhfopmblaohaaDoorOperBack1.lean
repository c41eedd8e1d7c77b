/- OperBack, the walk. -/
import Derived.Test.YtabhfopmblaohaaDoorOper8
import Derived.Test.YtabhfopmblaohaaDoorOpArg
set_option linter.unusedVariables false
set_option linter.unusedSimpArgs false
namespace Go.Proofs.YtabhfopmblaohaaDoor.Opr.RowOperBack
open Go.RowKit Go.Proofs.YtabhfopmblaohaaDoorW.PrintWords Go.Proofs.YtabhfopmblaohaaDoorW.PrintLast Go.Proofs.YtabhfopmblaohaaDoorW.PrintMore Go.Proofs.YtabhfopmblaohaaDoor.CdM Go.Proofs.YtabhfopmblaohaaDoor.Md Go.Proofs.YtabhfopmblaohaaDoor.Opr Go.Proofs.YtabhfopmblaohaaDoor.Rdr
open Go.Proofs.YtabhfopmblaohaaDoor.Err (Laid IsErr code_nil code_c Chain at_some at_nil)
theorem few0 {o : Op} (h : o.fewB = false) : (if o.fewB = true then (1 : Int) else 0) = 0 := by rw [h]; rfl
theorem few1 {o : Op} (h : o.fewB = true) : (if o.fewB = true then (1 : Int) else 0) = 1 := by rw [h]; rfl
theorem layAll_size {l : List Op} (h : AllOk l) (hn : l.length ≤ 1000) : (layAll l).size ≤ 13 + 409 * l.length := by
  have h1 := outs_size hn l.length (Nat.le_refl _) (fun j hj _ => h j hj)
  unfold layAll
  rw [ByteArray.size_append, AdQ.fourS_size]
  omega
/-- an op's bytes, read with more behind them -/
theorem read_head {w : World} {x o : Op} {r : ByteArray} {e : Value} {q : Nat} (hx : x.Ok) (h : OpRd w (x.lay ++ r) 0 o e q) : e = .nilIface ∧ o = x := by
  have hon : On (x.lay ++ r) 0 x.lay := On.of_eq rfl
  rcases h with ⟨rfl, ho, h1, _⟩ | ⟨_, _, h1⟩
  · obtain ⟨r2, h2⟩ := h1.zero
    exact ⟨rfl, (lay_peel ho hx h2.symm).1⟩
  · exact absurd hon (h1 x hx)
set_option maxHeartbeats 16000000 in
set_option maxRecDepth 100000 in
theorem walk0 (A : Option Addr) (n c : Nat) (l : List Op) (W : World) (hl : l.length = n) (hc : n ≤ c) (hn : n ≤ 60) (hA : Hid (Kd.C opk W A n l)) (hg : Hid (Laid W)) : Calls Tryd.prog 5 #[.slice A n c] W fun e w' => e = .returned (.bool true) ∧ Below W.heap.size W w' := by
  have g0 : decide ((n : Int) > 60) = false := decide_eq_false (by omega)
  have g1 : decide (60 < n) = false := decide_eq_false (by omega)
  go_enter Tryd.func5, Tryd.ntmps5
  go_wp2_with fail
  refine (awake_c _).mono ?_
  rintro e w1 ⟨rfl, hd⟩
  have HX1 := Lib.hid hd
  have HL1 := Lib.hid (hg.out.on hd)
  clear hd
  go_wp2_with fail
  go_loopg [3, 4] n (fun kq v0 v1 wr => ∃ (i : Nat) (M : List Op), v1 = .int .i64 (i : Int) ∧ kq + i = n ∧ M.length ≤ i ∧ Hid (AllOk M) ∧ Hid (Below W.heap.size W wr) ∧ Hid (Laid wr) ∧ Hid (Kd.R opk 30 wr W.heap.size (fun _ => True) v0 M))
  case atStart => exact ⟨0, [], rfl, by omega, Nat.le_refl _, Lib.hid (fun j hj => absurd hj (by simp)), HX1, HL1, Lib.hid (Kd.R_nil _ _ _ _ _)⟩
  case round =>
    clear HX1 HL1
    obtain ⟨i, M, rfl, hk, hMi, HOk, HX, HL, HM⟩ := hrel
    cases gk with
    | zero =>
      have hin : i = n := by omega
      have c1 : decide ((i : Int) < (n : Int)) = false := decide_eq_false (by omega)
      have c1' : decide (i < n) = false := decide_eq_false (by omega)
      obtain ⟨A2, cc, hu7, hcc, hC⟩ := Kd.R_reads HM.out
      obtain ⟨m, hm⟩ : ∃ m, M.length = m := ⟨_, rfl⟩
      have hm60 : m ≤ 60 := by omega
      rw [hm] at hcc hC hu7
      subst hu7
      have HC := Lib.hid hC
      have HMl := Lib.hid hm
      clear HM hC hk hm hMi
      go_wp2_with fail
      refine (layall_c A2 m cc M _ HMl.out HC (by omega) hcc).mono ?_
      rintro e w3 ⟨he, hd⟩
      have HX3 := Lib.hid (HX.out.trans (hd.mono HX.out.size))
      have HC3 := Lib.hid (Kd.C_below HC.out hd)
      obtain rfl : e = .returned (.tuple #[.string (layAll M), .nilIface]) := by
        rcases he with ⟨_, h⟩ | ⟨h, _⟩
        · exact h
        · exact absurd HOk.out h
      have hsz := layAll_size HOk.out (by have := HMl.out; omega)
      have hsz : (layAll M).size ≤ 4611686018427387904 := by have := HMl.out; omega
      clear hd HX HL HC he
      go_wp2_with fail
      refine (readall_any (layAll M) _ hsz).mono ?_
      rintro e w4 ⟨v, e0, rfl, hr, hd⟩
      have HX4 := Lib.hid (HX3.out.trans (hd.mono HX3.out.size))
      have HC4 := Lib.hid (Kd.C_below HC3.out hd)
      obtain ⟨rfl, hR⟩ : e0 = .nilIface ∧ Kd.R opk 30 w4 w3.heap.size (fun _ => True) v M := by
        rcases hr with ⟨h1, l', h2, h3, _, h5⟩ | ⟨_, h2, _⟩
        · have := layAll_inj HOk.out h3 h5
          rw [← this] at h2
          exact ⟨h1, h2⟩
        · exact absurd rfl (h2 M HOk.out (by have := HMl.out; omega))
      obtain ⟨A3, c3, rfl, hc3, hC3⟩ := Kd.R_reads hR
      rw [HMl.out] at hc3 hC3 ⊢
      have HY4 := Lib.hid hC3
      clear hd hr hR hC3 HX3 HC3 hsz
      go_wp2_with fail
      go_loopg [14] m (fun kq v0 wr => ∃ (j : Nat), v0 = .int .i64 (j : Int) ∧ kq + j = m ∧ Hid (Below W.heap.size W wr) ∧ Hid (Kd.C opk wr A2 m M) ∧ Hid (Kd.C opk wr A3 m M))
      case atStart => exact ⟨0, rfl, by omega, HX4, HC4, HY4⟩
      case round =>
        clear HX4 HC4 HY4
        obtain ⟨j, rfl, hk, HX, HC, HY⟩ := hrel
        cases gk with
        | zero =>
          have hjm : j = m := by omega
          have c2 : decide ((j : Int) < (m : Int)) = false := decide_eq_false (by omega)
          have c2' : decide (j < m) = false := decide_eq_false (by omega)
          have hmm : ((m : Int) == (m : Int)) = true := beq_self_eq_true _
          clear hk
          go_wp2_with fail
          refine (code_nil _).mono ?_
          rintro e w5 ⟨rfl, hd⟩
          have HX5 := Lib.hid (HX.out.trans (hd.mono HX.out.size))
          clear hd
          go_wp2_with fail
          refine (code_nil _).mono ?_
          rintro e w6 ⟨rfl, hd⟩
          have HX6 := Lib.hid (HX5.out.trans (hd.mono HX5.out.size))
          clear hd
          go_wp2_with fail
          go_ret
          exact ⟨rfl, HX6.out⟩
        | succ k1 =>
          have hjm : j < m := by omega
          have hjl : j < M.length := by have := HMl.out; omega
          have c2 : decide ((j : Int) < (m : Int)) = true := decide_eq_true (by omega)
          have c2' : decide (j < m) = true := decide_eq_true (by omega)
          have q5 : IntKind.i64.wrap ((j : Int) + 1) = (j : Int) + 1 := IntWalk.i64_in _ (by omega)
          have p1 : (0 ≤ (j : Int)) = True := eq_true (by omega)
          have p2 : ((j : Int) < (m : Int)) = True := eq_true (by omega)
          have hmm : ((m : Int) != (m : Int)) = false := by simp
          obtain ⟨ad3, rfl, h3⟩ := op_at HY.out j hjl
          obtain ⟨ad2, rfl, h2⟩ := op_at HC.out j hjl
          obtain ⟨x, hx⟩ : ∃ x, M[j] = x := ⟨_, rfl⟩
          rw [hx] at h3 h2
          have HB := Lib.hid (show Below wr.heap.size wr wr.drew from (Below.refl _ _).drew)
          have HPy := Lib.hid (h3.on HB.out)
          have HPm := Lib.hid (h2.on HB.out)
          have hnn : (!(x.beq x)) = false := by rw [Op.beq_self]; rfl
          have HX5 := Lib.hid (HX.out.trans (HB.out.mono HX.out.size))
          have HC5 := Lib.hid (Kd.C_below HC.out HB.out)
          have HY5 := Lib.hid (Kd.C_below HY.out HB.out)
          clear h2 h3 hx
          go_wp2_with fail
          refine start_ (n := 16) (S := fun w' => OpAt w' (ad3.add (j * 5)) x ∧ OpAt w' (ad2.add (j * 5)) x) (ds := []) #[false, false, false, false, false, false, false, false, false, false, false, false, false, false, false, false] (by kernel_rfl) rfl rfl ⟨HPy.out, HPm.out⟩ (fun hHeld => ?_)
          refine pure_ (i := 0) (N := some 90) (v := ?_) (a' := ?_) #[true, false, false, false, false, false, false, false, false, false, false, false, false, false, false, false] rfl rfl (by kernel_rfl) (fun _ _ _ h => h) (Or.inl ⟨by rfl, ?_⟩) ?_ ?_
          rotate_left
          · intro w'
            go_simp
            with_reducible rfl
          rotate_left
          · simp only [Act.put, List.setIfInBounds_toArray, List.set_cons_zero, List.set_cons_succ, i64_w, i32_w]
            rfl
          refine pure_ (i := 1) (N := some 91) (v := ?_) (a' := ?_) #[true, true, false, false, false, false, false, false, false, false, false, false, false, false, false, false] rfl rfl (by kernel_rfl) (fun _ _ _ h => h) (Or.inl ⟨by rfl, ?_⟩) ?_ ?_
          rotate_left
          · intro w'
            go_simp
            with_reducible rfl
          rotate_left
          · simp only [Act.put, List.setIfInBounds_toArray, List.set_cons_zero, List.set_cons_succ, i64_w, i32_w]
            rfl
          refine pure_ (i := 2) (N := some 92) (v := ?_) (a' := ?_) #[true, true, true, false, false, false, false, false, false, false, false, false, false, false, false, false] rfl rfl (by kernel_rfl) (fun _ _ _ h => h) (Or.inl ⟨by rfl, ?_⟩) ?_ ?_
          rotate_left
          · intro w'
            go_simp
            with_reducible rfl
          rotate_left
          · simp only [Act.put, List.setIfInBounds_toArray, List.set_cons_zero, List.set_cons_succ, i64_w, i32_w]
            rfl
          refine pure_ (i := 3) (N := some 93) (v := ?_) (a' := ?_) #[true, true, true, true, false, false, false, false, false, false, false, false, false, false, false, false] rfl rfl (by kernel_rfl) (fun _ _ _ h => h) (Or.inl ⟨by rfl, ?_⟩) ?_ ?_
          rotate_left
          · intro w'
            go_simp
            with_reducible rfl
          rotate_left
          · simp only [Act.put, List.setIfInBounds_toArray, List.set_cons_zero, List.set_cons_succ, i64_w, i32_w]
            rfl
          refine pure_ (i := 4) (N := some 94) (v := ?_) (a' := ?_) #[true, true, true, true, true, false, false, false, false, false, false, false, false, false, false, false] rfl rfl (by kernel_rfl) (fun _ _ _ h => h) (Or.inl ⟨by rfl, ?_⟩) ?_ ?_
          rotate_left
          · intro w'
            go_simp
            with_reducible rfl
          rotate_left
          · simp only [Act.put, List.setIfInBounds_toArray, List.set_cons_zero, List.set_cons_succ, i64_w, i32_w]
            rfl
          refine pure_ (i := 5) (N := some 95) (v := ?_) (a' := ?_) #[true, true, true, true, true, true, false, false, false, false, false, false, false, false, false, false] rfl rfl (by kernel_rfl) (fun _ _ _ h => h) (Or.inl ⟨by rfl, ?_⟩) ?_ ?_
          rotate_left
          · intro w'
            go_simp
            with_reducible rfl
          rotate_left
          · simp only [Act.put, List.setIfInBounds_toArray, List.set_cons_zero, List.set_cons_succ, i64_w, i32_w]
            rfl
          refine pure_ (i := 6) (N := some 96) (v := ?_) (a' := ?_) #[true, true, true, true, true, true, true, false, false, false, false, false, false, false, false, false] rfl rfl (by kernel_rfl) (fun _ _ _ h => h) (Or.inl ⟨by rfl, ?_⟩) ?_ ?_
          rotate_left
          · intro w'
            go_simp
            with_reducible rfl
          rotate_left
          · simp only [Act.put, List.setIfInBounds_toArray, List.set_cons_zero, List.set_cons_succ, i64_w, i32_w]
            rfl
          refine pure_ (i := 7) (N := some 97) (v := ?_) (a' := ?_) #[true, true, true, true, true, true, true, true, false, false, false, false, false, false, false, false] rfl rfl (by kernel_rfl) (fun _ _ _ h => h) (Or.inl ⟨by rfl, ?_⟩) ?_ ?_
          rotate_left
          · intro w'
            go_simp
            with_reducible rfl
          rotate_left
          · simp only [Act.put, List.setIfInBounds_toArray, List.set_cons_zero, List.set_cons_succ, i64_w, i32_w]
            rfl
          refine pure_ (i := 8) (N := some 98) (v := ?_) (a' := ?_) #[true, true, true, true, true, true, true, true, true, false, false, false, false, false, false, false] rfl rfl (by kernel_rfl) (fun _ _ _ h => h) (Or.inl ⟨by rfl, ?_⟩) ?_ ?_
          rotate_left
          · intro w'
            go_simp
            with_reducible rfl
          rotate_left
          · simp only [Act.put, List.setIfInBounds_toArray, List.set_cons_zero, List.set_cons_succ, i64_w, i32_w]
            rfl
          refine pure_ (i := 10) (N := some 100) (v := ?_) (a' := ?_) #[true, true, true, true, true, true, true, true, true, false, true, false, false, false, false, false] rfl rfl (by kernel_rfl) (fun _ _ _ h => h) (Or.inl ⟨by rfl, ?_⟩) ?_ ?_
          rotate_left
          · intro w'
            go_simp
            with_reducible rfl
          rotate_left
          · simp only [Act.put, List.setIfInBounds_toArray, List.set_cons_zero, List.set_cons_succ, i64_w, i32_w]
            rfl
          refine pure_ (i := 11) (N := some 101) (v := ?_) (a' := ?_) #[true, true, true, true, true, true, true, true, true, false, true, true, false, false, false, false] rfl rfl (by kernel_rfl) (fun _ _ _ h => h) (Or.inl ⟨by rfl, ?_⟩) ?_ ?_
          rotate_left
          · intro w'
            go_simp
            with_reducible rfl
          rotate_left
          · simp only [Act.put, List.setIfInBounds_toArray, List.set_cons_zero, List.set_cons_succ, i64_w, i32_w]
            rfl
          refine pure_ (i := 12) (N := some 102) (v := ?_) (a' := ?_) #[true, true, true, true, true, true, true, true, true, false, true, true, true, false, false, false] rfl rfl (by kernel_rfl) (fun _ _ _ h => h) (Or.inl ⟨by rfl, ?_⟩) ?_ ?_
          rotate_left
          · intro w'
            go_simp
            with_reducible rfl
          rotate_left
          · simp only [Act.put, List.setIfInBounds_toArray, List.set_cons_zero, List.set_cons_succ, i64_w, i32_w]
            rfl
          refine take_ (i := 9) (N := some 99) (v := ?_) (a' := ?_) #[true, true, true, true, true, true, true, true, true, true, true, true, true, false, false, false] rfl rfl (by kernel_rfl) (fun _ _ _ h => h) (Or.inl ⟨by rfl, ?_⟩) hHeld ?_ ?_
          rotate_left
          · rintro w' ⟨s0, s1⟩
            refine exec_loadOat (x := .tmp 98) ?_ ?_  s0
            · rfl
            · rfl
          rotate_left
          · simp only [Act.put, List.setIfInBounds_toArray, List.set_cons_zero, List.set_cons_succ, i64_w, i32_w]
            rfl
          refine take_ (i := 13) (N := some 103) (v := ?_) (a' := ?_) #[true, true, true, true, true, true, true, true, true, true, true, true, true, true, false, false] rfl rfl (by kernel_rfl) (fun _ _ _ h => h) (Or.inl ⟨by rfl, ?_⟩) hHeld ?_ ?_
          rotate_left
          · rintro w' ⟨s0, s1⟩
            refine exec_loadOat (x := .tmp 102) ?_ ?_  s1
            · rfl
            · rfl
          rotate_left
          · simp only [Act.put, List.setIfInBounds_toArray, List.set_cons_zero, List.set_cons_succ, i64_w, i32_w]
            rfl
          refine pure_ (i := 14) (N := some 104) (v := ?_) (a' := ?_) #[true, true, true, true, true, true, true, true, true, true, true, true, true, true, true, false] rfl rfl (by kernel_rfl) (fun _ _ _ h => h) (Or.inl ⟨by rfl, ?_⟩) ?_ ?_
          rotate_left
          · intro w'
            refine exec_neOpO (x := .tmp 99) (y := .tmp 103) ?_ ?_ ?_  hnn
            · rfl
            · rfl
            · rfl
          rotate_left
          · simp only [Act.put, List.setIfInBounds_toArray, List.set_cons_zero, List.set_cons_succ, i64_w, i32_w]
            rfl
          refine pure_ (i := 15) (N := some 105) (v := ?_) (a' := ?_) #[true, true, true, true, true, true, true, true, true, true, true, true, true, true, true, true] rfl rfl (by kernel_rfl) (fun _ _ _ h => h) (Or.inl ⟨by rfl, ?_⟩) ?_ ?_
          rotate_left
          · intro w'
            go_simp
            with_reducible rfl
          rotate_left
          · simp only [Act.put, List.setIfInBounds_toArray, List.set_cons_zero, List.set_cons_succ, i64_w, i32_w]
            rfl
          refine done_ (by kernel_rfl) ?_
          go_wp2_with fail
          go_roundg k1
          case measure => exact Nat.lt_succ_self _
          case rel => exact ⟨j + 1, by simp, by omega, HX5, HC5, HY5⟩
    | succ k1 =>
      have hin : i < n := by omega
      have hil : i < l.length := by omega
      have c1 : decide ((i : Int) < (n : Int)) = true := decide_eq_true (by omega)
      have c1' : decide (i < n) = true := decide_eq_true (by omega)
      have q5 : IntKind.i64.wrap ((i : Int) + 1) = (i : Int) + 1 := IntWalk.i64_in _ (by omega)
      have p1 : (0 ≤ (i : Int)) = True := eq_true (by omega)
      have p2 : ((i : Int) < (n : Int)) = True := eq_true (by omega)
      obtain ⟨ad, rfl, hat⟩ := op_at (Kd.C_below hA.out HX.out) i hil
      obtain ⟨x, hx⟩ : ∃ x, l[i] = x := ⟨_, rfl⟩
      rw [hx] at hat
      have HP := Lib.hid hat
      clear hat hx
      go_wp2_with (first | (refine wl_loadRat (ad.add (i * 5)) x HP.out rfl _ rfl rfl ?_))
      cases hf : x.fewB with
      | false =>
        refine (few_c x 0 _ (Lib.hid (few0 hf))).mono ?_
        rintro e w3 ⟨rfl, hd⟩
        have HX3 := Lib.hid (HX.out.trans (hd.mono HX.out.size))
        clear hd
        go_wp2_with fail
        go_ret
        exact ⟨rfl, HX3.out⟩
      | true =>
        refine (few_c x 1 _ (Lib.hid (few1 hf))).mono ?_
        rintro e w3 ⟨rfl, hd⟩
        have HX3 := Lib.hid (HX.out.trans (hd.mono HX.out.size))
        have HL3 := Lib.hid (HL.out.on hd)
        have HM3 := Lib.hid (Kd.R_below HM.out hd)
        have HP3 := Lib.hid (HP.out.on hd)
        clear hd HX HL HM HP hf
        go_wp2_with (first | (refine wl_loadRat (ad.add (i * 5)) x HP3.out rfl _ rfl rfl ?_))
        refine (of_c x _).mono ?_
        rintro e w4 ⟨rfl, hd⟩
        have HX4 := Lib.hid (HX3.out.trans (hd.mono HX3.out.size))
        have HL4 := Lib.hid (HL3.out.on hd)
        have HM4 := Lib.hid (Kd.R_below HM3.out hd)
        clear hd HX3 HL3 HM3 HP3
        have hd : Below w4.heap.size w4 (w4.alloc (Obj.cells x.a 30 (0, 0))) := (Below.refl _ _).alloc (Nat.le_refl _) _
        have HV5 := Lib.hid (heap_alloc_last w4 (Obj.cells x.a 30 (0, 0)))
        have HX5 := Lib.hid (HX4.out.trans (hd.mono HX4.out.size))
        have HL5 := Lib.hid (HL4.out.on hd)
        have HM5 := Lib.hid (Kd.R_below HM4.out hd)
        clear hd HX4 HL4 HM4
        go_wp2_with (first
          | (refine wl_allocO rfl rfl ?_)
          | (refine wl_storeOn Op.zero.a rfl x rfl _ _ rfl rfl rfl ?_)
          | (refine wl_loadO w4.heap.size x HV5.out rfl _ rfl rfl ?_))
        obtain ⟨V, hV⟩ : ∃ V, w4.heap.size = V := ⟨_, rfl⟩
        rw [hV] at HV5
        (try simp only [hV])
        generalize (w4.alloc (Obj.cells x.a 30 (0, 0))) = w5 at *
        clear hV
        by_cases hok : x.Ok
        · have HOx := Lib.hid hok
          have hlx := Op.lay_size hok
          clear hok
          refine (lay_ok x _ HOx).mono ?_
          rintro e w6 ⟨rfl, hd⟩
          have HX6 := Lib.hid (HX5.out.trans (hd.mono HX5.out.size))
          have HM6 := Lib.hid (Kd.R_below HM5.out hd)
          have HV6 := blk_to HV5 hd
          obtain ⟨S, hS⟩ : ∃ S, x.lay = S := ⟨_, rfl⟩
          rw [hS] at hlx ⊢
          have HS := Lib.hid hS
          clear hd hS HX5 HL5 HM5 HV5
          go_wp2_with fail
          refine (code_nil _).mono ?_
          rintro e w7 ⟨rfl, hd⟩
          have HX7 := Lib.hid (HX6.out.trans (hd.mono HX6.out.size))
          have HM7 := Lib.hid (Kd.R_below HM6.out hd)
          have HV7 := blk_to HV6 hd
          have k5 : (9223372036854775807 < S.size + 4) = False := eq_false (by omega)
          clear hd HX6 HM6 HV6
          go_wp2_with fail
          have hrz : (S ++ (⟨#[109, 111, 114, 101]⟩ : ByteArray)).size = S.size + 4 := ByteArray.size_append
          obtain ⟨S4, hS4⟩ : ∃ S4, S ++ (⟨#[109, 111, 114, 101]⟩ : ByteArray) = S4 := ⟨_, rfl⟩
          have HS4 := Lib.hid (show x.lay ++ (⟨#[109, 111, 114, 101]⟩ : ByteArray) = S4 by rw [HS.out, hS4])
          rw [hS4] at hrz ⊢
          clear hS4 k5
          refine (new_v S4 _).mono ?_
          rintro e w8 ⟨R, hR, rfl, hH, hdn⟩
          have HN8 := Lib.hid hdn
          clear hdn
          go_wp2_with fail
          refine (read_any R S4 0 _ hH (by omega)).mono ?_
          rintro e w9 ⟨o, e1, q, rfl, hrd, hm9, _⟩
          have hd : Below w7.heap.size w7 w9 := HN8.out.trans (hm9.below HN8.out.size (fun k hk (e : k = R) => by omega))
          have HX9 := Lib.hid (HX7.out.trans (hd.mono HX7.out.size))
          have HM9 := Lib.hid (Kd.R_below HM7.out hd)
          have HV9 := blk_to HV7 hd
          rw [← HS4.out] at hrd
          obtain ⟨rfl, rfl⟩ := read_head HOx.out hrd
          clear hd hm9 hrd hH HN8 hR HX7 HM7 HV7
          have hd : Below w9.heap.size w9 (w9.alloc (Obj.cells o.a 30 (0, 0))) := (Below.refl _ _).alloc (Nat.le_refl _) _
          have HQ10 := Lib.hid (heap_alloc_last w9 (Obj.cells o.a 30 (0, 0)))
          have HX10 := Lib.hid (HX9.out.trans (hd.mono HX9.out.size))
          have HM10 := Lib.hid (Kd.R_below HM9.out hd)
          have HV10 := blk_to HV9 hd
          clear hd HX9 HM9 HV9
          go_wp2_with (first
            | (refine wl_allocO rfl rfl ?_)
            | (refine wl_storeOn Op.zero.a rfl o rfl _ _ rfl rfl rfl ?_))
          obtain ⟨Z, hZ⟩ : ∃ Z, w9.heap.size = Z := ⟨_, rfl⟩
          rw [hZ] at HQ10
          (try simp only [hZ])
          generalize (w9.alloc (Obj.cells o.a 30 (0, 0))) = w10 at *
          clear hZ
          refine (code_nil _).mono ?_
          rintro e w11 ⟨rfl, hd⟩
          have HX11 := Lib.hid (HX10.out.trans (hd.mono HX10.out.size))
          have HM11 := Lib.hid (Kd.R_below HM10.out hd)
          have HV11 := blk_to HV10 hd
          have HQ11 := blk_to HQ10 hd
          have hnn : (!(o.beq o)) = false := by rw [Op.beq_self]; rfl
          clear hd HX10 HM10 HV10 HQ10
          go_wp2_with (first
            | (refine wg_loadO Z o HQ11.out (by rfl) _ rfl rfl ?_)
            | (refine wg_loadO V o HV11.out (by rfl) _ rfl rfl ?_)
            | (refine wg_neOpO o o false (by rfl) _ _ rfl rfl rfl hnn ?_)
            | (refine wl_loadO V o HV11.out rfl _ rfl rfl ?_)
            | (refine Kd.event_run rfl (exec_lit1 (o := o) rfl rfl _) ?_)
            | (at_builtin; refine Kd.R_append opk (w0 := W) W.heap.size rfl (.tmp 70) (.tmp 72) 35 30 (.agg Op.zero.a) 64 rfl Tryd.underlying35 infoO rfl (by decide) (by decide) _ M o (ocs o) (fun _ => True) (fun _ => False) rfl rfl rfl (fun _ h => h.elim) (fun _ _ => trivial) HM11.out HX11.out HX11.out.size (by omega) ?_; intro v6 w6 hL6 hX6 hg6 hat6; have HM12 := Lib.hid hL6; have HX12 := Lib.hid hX6; have HL12 := Lib.hid (hg.out.on hX6); clear hL6 hX6 hg6 hat6))
          go_roundg k1
          case measure => exact Nat.lt_succ_self _
          case rel => exact ⟨i + 1, M ++ [o], by simp, by omega, by simp; omega, Lib.hid (AllOk.snoc HOk.out HOx.out), HX12, HL12, HM12⟩
        · have HNo := Lib.hid (Op.okB_false.2 hok)
          clear hok
          refine (lay_no x _ HNo).mono ?_
          rintro e w6 ⟨⟨T, u, rfl, he⟩, hd⟩
          have HX6 := Lib.hid (HX5.out.trans (hd.mono HX5.out.size))
          have HL6 := Lib.hid (HL5.out.on hd)
          have HM6 := Lib.hid (Kd.R_below HM5.out hd)
          have HE6 := Lib.hid he
          clear hd he HX5 HL5 HM5 HV5
          go_wp2_with fail
          refine (code_c _ 1 _ HE6 HL6).mono ?_
          rintro e w7 ⟨rfl, hd⟩
          have HX7 := Lib.hid (HX6.out.trans (hd.mono HX6.out.size))
          have HL7 := Lib.hid (HL6.out.on hd)
          have HM7 := Lib.hid (Kd.R_below HM6.out hd)
          have HE7 := Lib.hid (HE6.out.on hd)
          clear hd HX6 HL6 HM6 HE6
          go_wp2_with fail
          refine (code_c _ 1 _ HE7 HL7).mono ?_
          rintro e w8 ⟨rfl, hd⟩
          have HX8 := Lib.hid (HX7.out.trans (hd.mono HX7.out.size))
          have HL8 := Lib.hid (HL7.out.on hd)
          have HM8 := Lib.hid (Kd.R_below HM7.out hd)
          clear hd HX7 HL7 HM7 HE7
          go_wp2_with fail
          go_roundg k1
          case measure => exact Nat.lt_succ_self _
          case rel => exact ⟨i + 1, M, by simp, by omega, by omega, HOk, HX8, HL8, HM8⟩
set_option maxHeartbeats 2000000 in
theorem many (A : Option Addr) (n c : Nat) (W : World) (hn : 60 < n) (hm : n ≤ 9223372036854775807) (hg : Hid (Laid W)) : Calls Tryd.prog 5 #[.slice A n c] W fun e w' => e = .returned (.bool true) ∧ Below W.heap.size W w' := by
  have g0 : decide ((n : Int) > 60) = true := decide_eq_true (by omega)
  have g1 : decide (60 < n) = true := decide_eq_true hn
  go_enter Tryd.func5, Tryd.ntmps5
  go_wp2_with fail
  refine (awake_c _).mono ?_
  rintro e w1 ⟨rfl, hd⟩
  have HX1 := Lib.hid hd
  clear hd
  go_wp2_with fail
  refine (awake_c _).mono ?_
  rintro e w2 ⟨rfl, hd⟩
  have HX2 := Lib.hid (HX1.out.trans (hd.mono HX1.out.size))
  clear hd
  go_wp2_with fail
  go_ret
  exact ⟨rfl, HX2.out⟩
theorem walk (A : Option Addr) (n c : Nat) (l : List Op) (W : World) (hl : l.length = n) (hc : n ≤ c) (hA : Kd.C opk W A n l) (hw : ∀ s ∈ l, Wf s) (hg : Hid (Laid W)) : Calls Tryd.prog 5 #[.slice A n c] W fun e w' => e = .returned (.bool true) ∧ Below W.heap.size W w' := by
  by_cases hn : n ≤ 60
  · exact walk0 A n c l W hl hc hn (Lib.hid hA) hg
  · exact many A n c W (by omega) (Kd.C_max hA) hg
end Go.Proofs.YtabhfopmblaohaaDoor.Opr.RowOperBack
