/- ManiBack, the walk. -/
import Derived.Test.YtpijilfkmkdghaaDoorManiBack0
import Derived.Test.YtpijilfkmkdghaaDoorManArg
set_option linter.unusedVariables false
set_option linter.unusedSimpArgs false
namespace Go.Proofs.YtpijilfkmkdghaaDoor.Mni
open Go.RowKit Go.Proofs.YtpijilfkmkdghaaDoorW.PrintWords Go.Proofs.YtpijilfkmkdghaaDoorW.PrintLast Go.Proofs.YtpijilfkmkdghaaDoorW.PrintMore Go.Proofs.YtpijilfkmkdghaaDoor.Md Go.Proofs.YtpijilfkmkdghaaDoor.QManiBack Go.Proofs.YtpijilfkmkdghaaDoor.CdM
open Go.Proofs.YtpijilfkmkdghaaDoor.Err (Laid IsErr code_nil code_c Chain at_some at_nil)
open Go.Proofs.YtpijilfkmkdghaaDoor.Rdr (NumTo NumAt NoNumTo RefAt On Has refA)
/-- the state of a law: the box of the manifest that came in -/
structure Bx (W wr : World) (X : Nat) (o : Loc) (g : Arg) : Prop where
  bel : Below W.heap.size W wr
  box : wr.heap[X]? = some (Obj.cells (o.b g) 26 (0, 0))
  arg : At2 wr o g
theorem Bx.on {W wr w1 : World} {X : Nat} {o : Loc} {g : Arg} (h : Bx W wr X o g) (k : Below wr.heap.size wr w1) : Bx W w1 X o g :=
  ⟨h.bel.trans (k.mono h.bel.size), (k.block _ (Err.lt_of_block h.box)).trans h.box, h.arg.on k⟩
theorem Bx.laid {W wr : World} {X : Nat} {o : Loc} {g : Arg} (h : Bx W wr X o g) (hg : Hid (Laid W)) : Hid (Laid wr) := Lib.hid (hg.out.on h.bel)
theorem Bx.new {W : World} {o : Loc} {g : Arg} (h : At2 W o g) : Bx W (W.alloc (Obj.cells (o.b g) 26 (0, 0))) W.heap.size o g :=
  ⟨(Below.refl _ _).alloc (Nat.le_refl _) _, heap_alloc_last _ _, h.on ((Below.refl _ _).alloc (Nat.le_refl _) _)⟩
theorem gm_len (g : Arg) : g.m.refs.length = g.refs.length := by simp [Arg.m]
theorem gm_get (g : Arg) (j : Nat) (h : j < g.refs.length) : g.m.refs[j]'(by rw [gm_len]; exact h) = refOf g.refs[j] := by simp [Arg.m, refOf]

theorem refsS_size : ∀ (l : List Rf), (∀ r ∈ l, 0 ≤ r.f0 ∧ r.f0 ≤ 4611686018427387904 ∧ 0 ≤ r.f1 ∧ r.f1 ≤ 4611686018427387904 ∧ 0 ≤ r.f2 ∧ r.f2 ≤ 4294967295) → (refsS l).size ≤ 27 * l.length
  | [], _ => Nat.zero_le _
  | r :: l, h => by
    have h1 := refsS_size l (fun x hx => h x (List.mem_cons_of_mem _ hx))
    have h2 := refS_size r (h r List.mem_cons_self)
    show (refS r ++ refsS l).size ≤ _
    rw [ByteArray.size_append, List.length_cons]
    omega
theorem snapsS_size : ∀ (t : List (List Int)), (∀ l ∈ t, l.length ≤ 9 ∧ ∀ x ∈ l, 0 ≤ x ∧ x ≤ 4611686018427387904) → (snapsS t).size ≤ 90 * t.length
  | [], _ => Nat.zero_le _
  | l :: t, h => by
    have h1 := snapsS_size t (fun x hx => h x (List.mem_cons_of_mem _ hx))
    have h2 := h l List.mem_cons_self
    have h3 := numsS_size l h2.2
    have h4 := numsS_size [(l.length : Int)] (one_nat _ (by omega))
    simp only [List.length_singleton] at h4
    show ((numsS [(l.length : Int)] ++ numsS l) ++ snapsS t).size ≤ _
    rw [ByteArray.size_append, ByteArray.size_append, List.length_cons]
    omega
theorem lay_size {m : Man} (h : Fits m) : (layM m).size ≤ 10000 := by
  obtain ⟨h1, h2, h3, h4, h5, h6, h7, h8⟩ := h
  have a1 := refsS_size m.refs h1
  have a2 := numsS_size m.stack h2
  have a3 := snapsS_size m.snaps h5
  have a4 := numsS_size [(m.refs.length : Int)] (one_nat _ (by omega))
  have a5 := numsS_size [(m.stack.length : Int)] (one_nat _ (by omega))
  have a6 := numsS_size [m.upper + 1, (m.snaps.length : Int)] (fun x hx => by
    rcases List.mem_cons.1 hx with rfl | hx
    · omega
    · rw [List.mem_singleton.1 hx]; omega)
  simp only [List.length_cons, List.length_nil] at a4 a5 a6
  unfold layM midS
  simp only [ByteArray.size_append]
  omega
theorem same_l (o o2 : Loc) (m : Man) (w : World) (h : At w o m) (h2 : At w o2 m) (hL : Hid (Lim m)) :
    Calls Tryd.prog 16 #[.agg (o.a m), .agg (o2.a m)] w fun e w' => e = .returned (.int .i64 1) ∧ Below w.heap.size w w' :=
  same_c o o2 m w h h2 (by have := hL.out.rl; omega) (by have := hL.out.sl; omega) (by have := hL.out.nl; omega) (fun l hl => by have := (hL.out.n l hl).1; omega)
set_option maxHeartbeats 8000000 in
set_option maxRecDepth 100000 in
theorem backW (o : Loc) (g : Arg) (size : Int) (W : World) (hw : Hid (Wf W o g)) (hg : Hid (Laid W)) :
    Calls Tryd.prog 5 #[.agg (o.b g), .int .i64 size] W fun e w' => e = .returned (.bool true) ∧ Below W.heap.size W w' := by
  have HS1 := Lib.hid (Bx.new hw.out.at_)
  go_enter Tryd.func5, Tryd.ntmps5
  go_upto_region 1 with fail
  obtain ⟨X, hX⟩ : ∃ X, W.heap.size = X := ⟨_, rfl⟩
  rw [hX] at HS1
  simp only [hX]
  generalize (W.alloc (Obj.cells (o.b g) 26 (0, 0))) = w1 at *
  clear hX
  go_wp2_with fail
  refine (awake_c w1 (HS1.out.laid hg)).mono ?_
  rintro e w2 ⟨rfl, hd⟩
  have HS2 := Lib.hid (HS1.out.on hd)
  clear hd HS1
  go_wp2_with (first | (refine wg_loadG X o g HS2.out.box (by rfl) _ rfl rfl ?_))
  refine (few_c o g w2 (Lib.hid HS2.out.arg)).mono ?_
  rintro e w3 ⟨r, rfl, hr01, hr1, hd⟩
  have HS3 := Lib.hid (HS2.out.on hd)
  clear hd HS2
  by_cases hr0 : r = 0
  · subst hr0
    clear hr01 hr1
    go_wp2_with fail
    refine (awake_c w3 (HS3.out.laid hg)).mono ?_
    rintro e w4 ⟨rfl, hd⟩
    have HS4 := Lib.hid (HS3.out.on hd)
    clear hd HS3
    go_wp2_with fail
    go_ret
    exact ⟨rfl, HS4.out.bel⟩
  · obtain rfl : r = 1 := hr01.resolve_left hr0
    obtain ⟨b80, bs20, b20, bl20⟩ := hr1 rfl
    clear hr01 hr0 hr1 bl20
    go_wp2_with (first | (refine wl_loadG X o g HS3.out.box rfl _ rfl rfl ?_))
    refine (of_c o g w3 (Lib.hid HS3.out.arg) (by omega)).mono ?_
    rintro e w4 ⟨o1, rfl, ha, hd⟩
    have HS4 := Lib.hid (HS3.out.on hd)
    have HA4 := Lib.hid ha
    clear ha hd HS3
    go_wp2_with fail
    cases hb : rightM g.m size with
    | false =>
      refine (lay_not o1 g.m size w4 HA4 (by show g.snaps.length ≤ _; omega) (by rw [gm_len]; omega) (Lib.hid hb)).mono ?_
      rintro e w5 ⟨T, x, rfl, hi, hd⟩
      have HS5 := Lib.hid (HS4.out.on hd)
      have HE5 := Lib.hid hi
      have HR := Lib.hid hb
      clear hd hi hb HS4 HA4
      go_wp2_with fail
      refine (code_c _ 1 w5 HE5 (HS5.out.laid hg)).mono ?_
      rintro e w6 ⟨rfl, hd⟩
      have HS6 := Lib.hid (HS5.out.on hd)
      have HE6 := Lib.hid (HE5.out.on hd)
      clear hd HS5 HE5
      go_wp2_with fail
      refine (code_c _ 1 w6 HE6 (HS6.out.laid hg)).mono ?_
      rintro e w7 ⟨rfl, hd⟩
      have HS7 := Lib.hid (HS6.out.on hd)
      clear hd HS6 HE6
      go_wp2_with (first | (refine wg_loadG X o g HS7.out.box (by rfl) _ rfl rfl ?_))
      refine (of_c o g w7 (Lib.hid HS7.out.arg) (by omega)).mono ?_
      rintro e w8 ⟨o2, rfl, ha, hd⟩
      have HS8 := Lib.hid (HS7.out.on hd)
      have HA8 := Lib.hid ha
      clear ha hd HS7
      go_wp2_with fail
      refine (right_c o2 g.m size w8 HA8 (by show g.snaps.length ≤ _; omega) (by rw [gm_len]; omega)).mono ?_
      rintro e w9 ⟨rfl, hd⟩
      rw [HR.out]
      have HS9 := Lib.hid (HS8.out.on hd)
      clear hd HS8 HA8
      go_wp2_with fail
      go_ret
      exact ⟨rfl, HS9.out.bel⟩
    | true =>
      have hL := lim_right hb (fun r hr => by
        obtain ⟨r0, h0, rfl⟩ := List.mem_map.1 hr
        exact hw.out.sums r0 h0)
      have HL := Lib.hid hL
      have hlt := lay_size hL.fits
      obtain ⟨T, hT⟩ : ∃ T, layM g.m = T := ⟨_, rfl⟩
      have HT := Lib.hid hT
      have hly := lay_yes o1 g.m size w4 HA4 (by show g.snaps.length ≤ _; omega) (by rw [gm_len]; omega) (Lib.hid hb) (Lib.hid hL.fits)
      rw [hT] at hly hlt
      have hp1 : partsP T 0 = some (g.m, T.size) := by
        have z := parts_lay (s := T) (p := 0) (by rw [hT]; exact ⟨[], by simp⟩) hL
        rw [hT, Nat.zero_add] at z; exact z
      obtain ⟨T0, hT0⟩ : ∃ T0, T ++ ⟨#[0]⟩ = T0 := ⟨_, rfl⟩
      have hz0 : T0.size = T.size + 1 := by rw [← hT0, ByteArray.size_append]; rfl
      have hp0 : partsP T0 0 = some (g.m, T.size) := by
        have z := parts_lay (s := T0) (p := 0) (by rw [hT, ← hT0]; exact (On.app.1 (⟨[], by simp⟩ : On (T ++ ⟨#[0]⟩) 0 (T ++ ⟨#[0]⟩))).1) hL
        rw [hT, Nat.zero_add] at z; exact z
      have HP1 := Lib.hid hp1
      have HP0 := Lib.hid hp0
      have HR := Lib.hid hb
      have HT0 := Lib.hid hT0
      have hz0' : T0.size ≤ 20000 := by omega
      have HZ0 := Lib.hid hz0
      clear hp1 hp0 hL hT hb hT0 hz0
      refine hly.mono ?_
      rintro e w5 ⟨rfl, hd⟩
      have HS5 := Lib.hid (HS4.out.on hd)
      clear hd hly HS4 HA4
      go_wp2_with fail
      refine (code_nil w5).mono ?_
      rintro e w6 ⟨rfl, hd⟩
      have HS6 := Lib.hid (HS5.out.on hd)
      clear hd HS5
      go_wp2_with fail
      refine (read_c T size w6 (by omega)).mono ?_
      rintro e w7 ⟨hd, ⟨m2, ox, hu, hp, hR2, rfl, hat⟩ | ⟨hu, _⟩⟩
      rotate_left
      · exfalso
        unfold readP at hu
        rw [HP1.out, Option.bind_some, if_pos ⟨rfl, HR.out⟩] at hu
        cases hu
      obtain rfl : m2 = g.m := by rw [HP1.out] at hp; injection hp with hp; injection hp with hp _; exact hp.symm
      have HS7 := Lib.hid (HS6.out.on hd)
      have HA7 := Lib.hid hat
      clear hd hu hp hR2 hat HS6
      go_upto_region 7 with (first
        | (refine wl_allocM rfl rfl ?_)
        | (refine wl_storeMn #[.slice none 0 0, .slice none 0 0, .int .i64 0, .slice none 0 0] rfl ox g.m rfl _ _ rfl rfl rfl ?_))
      have hd : Below w7.heap.size w7 (w7.alloc (Obj.cells (ox.a g.m) 32 (0, 0))) := (Below.refl _ _).alloc (Nat.le_refl _) _
      have HS8 := Lib.hid (HS7.out.on hd)
      have HA8 := Lib.hid (HA7.out.on hd)
      have HV8 := Lib.hid (heap_alloc_last w7 (Obj.cells (ox.a g.m) 32 (0, 0)))
      obtain ⟨V, hV⟩ : ∃ V, w7.heap.size = V := ⟨_, rfl⟩
      rw [hV] at HV8
      simp only [hV]
      generalize (w7.alloc (Obj.cells (ox.a g.m) 32 (0, 0))) = w8 at *
      clear hd hV HS7 HA7
      have k1 : (9223372036854775807 < T.size + 1) = False := eq_false (by omega)
      go_wp2_with fail
      rw [HT0.out]
      refine (read_c T0 size w8 (by omega)).mono ?_
      rintro e w9 ⟨hd, ⟨m2, _, hu, hp, _⟩ | ⟨hu, T2, x2, rfl, hi⟩⟩
      · exfalso
        rw [HP0.out] at hp
        injection hp with hp
        injection hp with _ hp
        have := HZ0.out
        omega
      have HS9 := Lib.hid (HS8.out.on hd)
      have HA9 := Lib.hid (HA8.out.on hd)
      have HV9 := blk_to HV8 hd
      have HE9 := Lib.hid hi
      clear hd hu hi HS8 HA8 HV8 k1
      go_upto_region 8 with (first
        | (refine wl_allocM rfl rfl ?_)
        | (refine wl_storeMn #[.slice none 0 0, .slice none 0 0, .int .i64 0, .slice none 0 0] rfl zeroL zeroM rfl _ _ rfl rfl rfl ?_))
      have hd : Below w9.heap.size w9 (w9.alloc (Obj.cells (Loc.a zeroL zeroM) 32 (0, 0))) := (Below.refl _ _).alloc (Nat.le_refl _) _
      have HS10 := Lib.hid (HS9.out.on hd)
      have HA10 := Lib.hid (HA9.out.on hd)
      have HV10 := blk_to HV9 hd
      have HE10 := Lib.hid (HE9.out.on hd)
      generalize (w9.alloc (Obj.cells (Loc.a zeroL zeroM) 32 (0, 0))) = w10 at *
      clear hd HS9 HA9 HV9 HE9
      go_wp2_with fail
      have HD := Lib.hid (show Below w10.heap.size w10 w10.drew from (Below.refl _ _).drew)
      have hS := fun {w' : World} (k : Below w10.heap.size w10 w') => HS10.out.on k
      have hA := fun {w' : World} (k : Below w10.heap.size w10 w') => HA10.out.on k
      have hV := fun {w' : World} (k : Below w10.heap.size w10 w') => (blk_to HV10 k).out
      have hE := fun {w' : World} (k : Below w10.heap.size w10 w') => HE10.out.on k
      refine start_ (n := 16) (S := fun w' => w'.heap[V]? = some (Obj.cells (ox.a g.m) 32 (0, 0)) ∧ w'.heap[X]? = some (Obj.cells (o.b g) 26 (0, 0))) (ds := []) #[false, false, false, false, false, false, false, false, false, false, false, false, false, false, false, false] (by kernel_rfl) rfl rfl ⟨hV HD.out, (hS HD.out).box⟩ (fun hHeld => ?_)
      refine pure_ (i := 0) (N := some 56) (v := ?_) (a' := ?_) #[true, false, false, false, false, false, false, false, false, false, false, false, false, false, false, false] rfl rfl (by kernel_rfl) (fun _ _ _ h => h) (Or.inl ⟨by rfl, ?_⟩) ?_ ?_
      rotate_left
      · intro w'
        go_simp
        with_reducible rfl
      rotate_left
      · simp only [Act.put, List.setIfInBounds_toArray, List.set_cons_zero, List.set_cons_succ, i64_w, i32_w]
        rfl
      refine one_ (i := 1) (N := some 57) #[true, true, false, false, false, false, false, false, false, false, false, false, false, false, false, false] rfl rfl (by kernel_rfl) (by decide) (fun K hK => ?_)
      refine goes_ Tryd.func14 (by kernel_rfl) rfl #[.nilIface] (by rfl) rfl rfl (by simp only [List.map_toArray, List.map_cons, List.map_nil]; rfl) ?_
      with_reducible refine (code_nil _).mono ?_
      rintro e v20 ⟨rfl, hd⟩
      refine ⟨_, rfl, ?_⟩
      have Hv20 := Lib.hid (HD.out.trans (hd.mono HD.out.size))
      clear hd
      refine hK.out _ _ ⟨hV Hv20.out, (hS Hv20.out).box⟩ (fun hHeld => ?_)
      clear hK K
      refine norm_ (a' := ?_) ?_ ?_
      rotate_left
      · show Act.put _ (some 57) _ = _
        simp only [Act.put, List.setIfInBounds_toArray, List.set_cons_zero, List.set_cons_succ, i64_w, i32_w]
        rfl
      refine pure_ (i := 2) (N := some 58) (v := ?_) (a' := ?_) #[true, true, true, false, false, false, false, false, false, false, false, false, false, false, false, false] rfl rfl (by kernel_rfl) (fun _ _ _ h => h) (Or.inl ⟨by rfl, ?_⟩) ?_ ?_
      rotate_left
      · intro w'
        go_simp
        with_reducible rfl
      rotate_left
      · simp only [Act.put, List.setIfInBounds_toArray, List.set_cons_zero, List.set_cons_succ, i64_w, i32_w]
        rfl
      refine pure_ (i := 3) (N := some 59) (v := ?_) (a' := ?_) #[true, true, true, true, false, false, false, false, false, false, false, false, false, false, false, false] rfl rfl (by kernel_rfl) (fun _ _ _ h => h) (Or.inl ⟨by rfl, ?_⟩) ?_ ?_
      rotate_left
      · intro w'
        go_simp
        with_reducible rfl
      rotate_left
      · simp only [Act.put, List.setIfInBounds_toArray, List.set_cons_zero, List.set_cons_succ, i64_w, i32_w]
        rfl
      refine take_ (i := 4) (N := some 60) (v := ?_) (a' := ?_) #[true, true, true, true, true, false, false, false, false, false, false, false, false, false, false, false] rfl rfl (by kernel_rfl) (fun _ _ _ h => h) (Or.inl ⟨by rfl, ?_⟩) hHeld ?_ ?_
      rotate_left
      · rintro w' ⟨s0, s1⟩
        refine (exec_loadM (x := .tmp 7) ?_ ?_  s0).trans ?_
        · rfl
        · rfl
        · with_reducible rfl
      rotate_left
      · simp only [Act.put, List.setIfInBounds_toArray, List.set_cons_zero, List.set_cons_succ, i64_w, i32_w]
        rfl
      refine take_ (i := 5) (N := some 61) (v := ?_) (a' := ?_) #[true, true, true, true, true, true, false, false, false, false, false, false, false, false, false, false] rfl rfl (by kernel_rfl) (fun _ _ _ h => h) (Or.inl ⟨by rfl, ?_⟩) hHeld ?_ ?_
      rotate_left
      · rintro w' ⟨s0, s1⟩
        refine (exec_loadG (x := .tmp 2) ?_ ?_  s1).trans ?_
        · rfl
        · rfl
        · with_reducible rfl
      rotate_left
      · simp only [Act.put, List.setIfInBounds_toArray, List.set_cons_zero, List.set_cons_succ, i64_w, i32_w]
        rfl
      refine one_ (i := 6) (N := some 62) #[true, true, true, true, true, true, true, false, false, false, false, false, false, false, false, false] rfl rfl (by kernel_rfl) (by decide) (fun K hK => ?_)
      refine goes_ Tryd.func10 (by kernel_rfl) rfl #[.agg (o.b g)] (by rfl) rfl rfl (by simp only [List.map_toArray, List.map_cons, List.map_nil]; rfl) ?_
      with_reducible refine (of_c o g _ (Lib.hid (hS Hv20.out).arg) (by omega)).mono ?_
      rintro e v21 ⟨o6, rfl, ha, hd⟩
      refine ⟨_, rfl, ?_⟩
      have Hv21 := Lib.hid (Hv20.out.trans (hd.mono Hv20.out.size))
      have HA6 := Lib.hid ha
      clear ha
      clear hd
      refine hK.out _ _ ⟨hV Hv21.out, (hS Hv21.out).box⟩ (fun hHeld => ?_)
      clear hK K
      refine norm_ (a' := ?_) ?_ ?_
      rotate_left
      · show Act.put _ (some 62) _ = _
        simp only [Act.put, List.setIfInBounds_toArray, List.set_cons_zero, List.set_cons_succ, i64_w, i32_w]
        rfl
      refine one_ (i := 7) (N := some 63) #[true, true, true, true, true, true, true, true, false, false, false, false, false, false, false, false] rfl rfl (by kernel_rfl) (by decide) (fun K hK => ?_)
      refine goes_ Tryd.func16 (by kernel_rfl) rfl #[.agg (ox.a g.m), .agg (o6.a g.m)] (by rfl) rfl rfl (by simp only [List.map_toArray, List.map_cons, List.map_nil]; rfl) ?_
      with_reducible refine (same_l ox o6 g.m _ (hA Hv21.out) HA6.out HL).mono ?_
      rintro e v22 ⟨rfl, hd⟩
      refine ⟨_, rfl, ?_⟩
      have Hv22 := Lib.hid (Hv21.out.trans (hd.mono Hv21.out.size))
      clear hd
      refine hK.out _ _ ⟨hV Hv22.out, (hS Hv22.out).box⟩ (fun hHeld => ?_)
      clear hK K
      refine norm_ (a' := ?_) ?_ ?_
      rotate_left
      · show Act.put _ (some 63) _ = _
        simp only [Act.put, List.setIfInBounds_toArray, List.set_cons_zero, List.set_cons_succ, i64_w, i32_w]
        rfl
      refine pure_ (i := 8) (N := some 64) (v := ?_) (a' := ?_) #[true, true, true, true, true, true, true, true, true, false, false, false, false, false, false, false] rfl rfl (by kernel_rfl) (fun _ _ _ h => h) (Or.inl ⟨by rfl, ?_⟩) ?_ ?_
      rotate_left
      · intro w'
        go_simp
        with_reducible rfl
      rotate_left
      · simp only [Act.put, List.setIfInBounds_toArray, List.set_cons_zero, List.set_cons_succ, i64_w, i32_w]
        rfl
      refine pure_ (i := 9) (N := some 65) (v := ?_) (a' := ?_) #[true, true, true, true, true, true, true, true, true, true, false, false, false, false, false, false] rfl rfl (by kernel_rfl) (fun _ _ _ h => h) (Or.inl ⟨by rfl, ?_⟩) ?_ ?_
      rotate_left
      · intro w'
        go_simp
        with_reducible rfl
      rotate_left
      · simp only [Act.put, List.setIfInBounds_toArray, List.set_cons_zero, List.set_cons_succ, i64_w, i32_w]
        rfl
      refine pure_ (i := 10) (N := some 66) (v := ?_) (a' := ?_) #[true, true, true, true, true, true, true, true, true, true, true, false, false, false, false, false] rfl rfl (by kernel_rfl) (fun _ _ _ h => h) (Or.inl ⟨by rfl, ?_⟩) ?_ ?_
      rotate_left
      · intro w'
        go_simp
        with_reducible rfl
      rotate_left
      · simp only [Act.put, List.setIfInBounds_toArray, List.set_cons_zero, List.set_cons_succ, i64_w, i32_w]
        rfl
      refine pure_ (i := 11) (N := some 67) (v := ?_) (a' := ?_) #[true, true, true, true, true, true, true, true, true, true, true, true, false, false, false, false] rfl rfl (by kernel_rfl) (fun _ _ _ h => h) (Or.inl ⟨by rfl, ?_⟩) ?_ ?_
      rotate_left
      · intro w'
        go_simp
        with_reducible rfl
      rotate_left
      · simp only [Act.put, List.setIfInBounds_toArray, List.set_cons_zero, List.set_cons_succ, i64_w, i32_w]
        rfl
      refine one_ (i := 12) (N := some 68) #[true, true, true, true, true, true, true, true, true, true, true, true, true, false, false, false] rfl rfl (by kernel_rfl) (by decide) (fun K hK => ?_)
      refine goes_ Tryd.func14 (by kernel_rfl) rfl #[.iface T2 x2] (by rfl) rfl rfl (by simp only [List.map_toArray, List.map_cons, List.map_nil]; rfl) ?_
      with_reducible refine (code_c _ 13 _ (Lib.hid (hE Hv22.out)) ((hS Hv22.out).laid hg)).mono ?_
      rintro e v23 ⟨rfl, hd⟩
      refine ⟨_, rfl, ?_⟩
      have Hv23 := Lib.hid (Hv22.out.trans (hd.mono Hv22.out.size))
      clear hd
      refine hK.out _ _ ⟨hV Hv23.out, (hS Hv23.out).box⟩ (fun hHeld => ?_)
      clear hK K
      refine norm_ (a' := ?_) ?_ ?_
      rotate_left
      · show Act.put _ (some 68) _ = _
        simp only [Act.put, List.setIfInBounds_toArray, List.set_cons_zero, List.set_cons_succ, i64_w, i32_w]
        rfl
      refine pure_ (i := 13) (N := some 69) (v := ?_) (a' := ?_) #[true, true, true, true, true, true, true, true, true, true, true, true, true, true, false, false] rfl rfl (by kernel_rfl) (fun _ _ _ h => h) (Or.inl ⟨by rfl, ?_⟩) ?_ ?_
      rotate_left
      · intro w'
        go_simp
        with_reducible rfl
      rotate_left
      · simp only [Act.put, List.setIfInBounds_toArray, List.set_cons_zero, List.set_cons_succ, i64_w, i32_w]
        rfl
      refine pure_ (i := 14) (N := some 70) (v := ?_) (a' := ?_) #[true, true, true, true, true, true, true, true, true, true, true, true, true, true, true, false] rfl rfl (by kernel_rfl) (fun _ _ _ h => h) (Or.inl ⟨by rfl, ?_⟩) ?_ ?_
      rotate_left
      · intro w'
        go_simp
        with_reducible rfl
      rotate_left
      · simp only [Act.put, List.setIfInBounds_toArray, List.set_cons_zero, List.set_cons_succ, i64_w, i32_w]
        rfl
      refine pure_ (i := 15) (N := some 4) (v := ?_) (a' := ?_) #[true, true, true, true, true, true, true, true, true, true, true, true, true, true, true, true] rfl rfl (by kernel_rfl) (fun _ _ _ h => h) (Or.inl ⟨by rfl, ?_⟩) ?_ ?_
      rotate_left
      · intro w'
        go_simp
        with_reducible rfl
      rotate_left
      · simp only [Act.put, List.setIfInBounds_toArray, List.set_cons_zero, List.set_cons_succ, i64_w, i32_w]
        rfl
      refine done_ (by kernel_rfl) ?_
      go_wp2_with fail
      go_ret
      exact ⟨rfl, (hS Hv23.out).bel⟩
namespace RowManiBack
theorem walk (o : Loc) (g : Arg) (size : Int) (w : World) (hw : Wf w o g) (hz : (Lit.int .i64 size).wf = true) (hg : Hid (Laid w)) :
    Calls Tryd.prog 5 #[.agg (o.b g), .int .i64 size] w fun e w' => e = .returned (.bool true) ∧ Below w.heap.size w w' := backW o g size w (Lib.hid hw) hg
end RowManiBack
end Go.Proofs.YtpijilfkmkdghaaDoor.Mni

