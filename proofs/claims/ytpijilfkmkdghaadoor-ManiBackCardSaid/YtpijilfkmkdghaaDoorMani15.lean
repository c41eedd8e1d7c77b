/- mani.refs at any bytes. -/
import Derived.Test.YtpijilfkmkdghaaDoorMani14
set_option linter.unusedVariables false
set_option linter.unusedSimpArgs false
namespace Go.Proofs.YtpijilfkmkdghaaDoor.Mni
open Go.RowKit Go.Proofs.YtpijilfkmkdghaaDoorW.PrintWords Go.Proofs.YtpijilfkmkdghaaDoorW.PrintLast Go.Proofs.YtpijilfkmkdghaaDoorW.PrintMore Go.Proofs.YtpijilfkmkdghaaDoor.Md Go.Proofs.YtpijilfkmkdghaaDoor.QManiBack Go.Proofs.YtpijilfkmkdghaaDoor.CdM
open Go.Proofs.YtpijilfkmkdghaaDoor.Err (Laid IsErr code_nil code_c Chain at_some at_nil)
open Go.Proofs.YtpijilfkmkdghaaDoor.Rdr (NumTo NumAt NoNumTo RefAt On Has refA)
section
variable {ops : Array Oper} {rest : List Oper} {o : Oper} {a : Go.Act} {w : World} {Q : Exit → Go.Act → World → Prop}
theorem wl_litR (r : Rf) (hgd : o.guard = none) (x : Operand) (ho : o.op = .buildSlice 30 1 #[(0, x)]) (hx : a.eval x = .agg (ra r)) (h : wpList Tryd.prog ops Q rest (a.put o.dst (.slice (some ⟨w.heap.size, 0, none⟩) 1 1)) (w.alloc (.cells (ra r) 56 (0, 0)))) : wpList Tryd.prog ops Q (o :: rest) a w :=
  Kd.event_run hgd (exec_litR (a := r.f0) (b := r.f1) (c := r.f2) ho hx w) h
end
set_option maxHeartbeats 4000000 in
set_option maxRecDepth 100000 in
theorem refs_c (R : Nat) (s : ByteArray) (p : Nat) (w : World) (h : Hid (Has w R s p)) (hs : s.size ≤ 4611686018427387904) :
    Calls Tryd.prog 41 #[.pointer (some ⟨R, 0, none⟩)] w fun ev w' => Mod (· = R) w w' ∧ ((∃ l q v, refsP s p = some (l, q) ∧ ev = .returned (.tuple #[v, .nilIface]) ∧ rk.R 56 w' w.heap.size (fun _ => True) v l ∧ Has w' R s q) ∨ (refsP s p = none ∧ (∃ T x, ev = .returned (.tuple #[.slice none 0 0, .iface T x]) ∧ IsErr w' (.iface T x) 13) ∧ ∃ q, Has w' R s q)) := by
  have hRl : R < w.heap.size := Err.lt_of_block h.out
  obtain ⟨U, hU⟩ : ∃ U, refsP s p = U := ⟨_, rfl⟩
  have HU := Lib.hid hU
  rw [hU]
  clear hU
  go_enter Tryd.func41, Tryd.ntmps41
  go_wp2_with fail
  refine (Rdr.num_any R s p 64 w h hs).mono ?_
  rintro e w2 ⟨n0, e0, q0, rfl, ha, hm, hh⟩
  have HM2 := Lib.hid hm
  have HH2 := Lib.hid hh
  rcases numAt_P ha with ⟨n, hn, rfl, rfl, hn9⟩ | ⟨hn, rfl, T, x, rfl, hi⟩
  · have HU2 := Lib.hid (show (refsIt s n q0).bind (fun b => some ([] ++ b.1, b.2)) = U by
      rw [← HU.out]
      unfold refsP
      rw [hn, Option.bind_some]
      show (refsIt s n q0).bind _ = refsIt s n q0
      cases refsIt s n q0 <;> rfl)
    clear hn ha hm hh HU
    go_wp2_with fail
    go_loopg [6, 18] n (fun kq v6 v18 wr => ∃ (i : Nat) (acc : List Rf) (q : Nat), v18 = .int .i64 (i : Int) ∧ kq + i = n ∧ acc.length = i ∧ Hid (rk.R 56 wr w.heap.size (fun _ => True) v6 acc) ∧ Hid (Has wr R s q) ∧ Hid (Mod (· = R) w wr) ∧ Hid ((refsIt s kq q).bind (fun b => some (acc ++ b.1, b.2)) = U))
    case atStart => exact ⟨0, [], q0, rfl, rfl, rfl, Lib.hid (Kd.R_nil _ _ _ _ _), HH2, HM2, HU2⟩
    case round =>
      clear HH2 HM2 HU2
      obtain ⟨i, acc, q, rfl, hk, hacc, HR, HH, HM, HU⟩ := hrel
      generalize wr = w3 at *
      obtain ⟨vx, vn, vc, rfl⟩ := r_sl HR.out
      cases gk with
      | zero =>
        have c1 : decide ((i : Int) < (n : Int)) = false := decide_eq_false (by omega)
        have c1b : decide (i < n) = false := decide_eq_false (by omega)
        have HU3 := Lib.hid (show some (acc, q) = U by rw [← HU.out]; show _ = some (acc ++ [], q); rw [List.append_nil])
        clear HU hk
        go_wp2_with fail
        go_ret2
        exact ⟨HM.out, .inl ⟨acc, q, _, HU3.out.symm, rfl, HR.out, HH.out⟩⟩
      | succ k1 =>
        have hin : i < n := by omega
        have c1 : decide ((i : Int) < (n : Int)) = true := decide_eq_true (by omega)
        have c1b : decide (i < n) = true := decide_eq_true hin
        have q5 : IntKind.i64.wrap ((i : Int) + 1) = (i : Int) + 1 := IntWalk.i64_in _ (by omega)
        go_wp2_with fail
        refine (Rdr.bread_c R s q w3 HH hs).mono ?_
        rintro e w4 ⟨v1, e1, rfl, ha, hm, hq⟩
        have HM4 := Lib.hid (HM.out.tr hm)
        have HR4 := Lib.hid (row_R HR.out rfl hm hRl)
        rcases refAt_P ha hq with ⟨r, q1, hy, rfl, rfl, hh⟩ | ⟨hy, rfl, ⟨T, x, rfl, hi⟩, q1, hh⟩
        · have HH4 := Lib.hid hh
          have HU4 := Lib.hid (show (refsIt s k1 q1).bind (fun b => some ((acc ++ [r]) ++ b.1, b.2)) = U by
            rw [← HU.out]
            show _ = ((refP s q).bind fun a => (refsIt s k1 a.2).bind fun b => some (a.1 :: b.1, b.2)).bind (fun b => some (acc ++ b.1, b.2))
            rw [hy, Option.bind_some]
            cases refsIt s k1 q1 with
            | none => rfl
            | some b => show some ((acc ++ [r]) ++ b.1, b.2) = some (acc ++ (r :: b.1), b.2); rw [List.append_assoc]; rfl)
          clear ha hm hh hq hy HR HH HM HU
          go_upto_region 8 with (first
            | (refine wl_allocR rfl rfl ?_)
            | (refine wl_storeRn #[.int .i64 0, .int .i64 0, .int .u32 0] rfl r rfl _ _ rfl rfl rfl ?_))
          have hb5 : Below w4.heap.size w4 (w4.alloc (Obj.cells (ra r) 56 (0, 0))) := (Below.refl _ _).alloc (Nat.le_refl _) _
          have HK5 := Lib.hid (heap_alloc_last w4 (Obj.cells (ra r) 56 (0, 0)))
          have HR5 := Lib.hid (Kd.R_below HR4.out hb5)
          have HH5 := Lib.hid (has_b HH4.out hb5 (Err.lt_of_block HH4.out))
          have HM5 := Lib.hid (HM4.out.on_below hb5 (Nat.le_refl _))
          obtain ⟨K, hK⟩ : ∃ K, w4.heap.size = K := ⟨_, rfl⟩
          rw [hK] at HK5
          simp only [hK]
          generalize (w4.alloc (Obj.cells (ra r) 56 (0, 0))) = w5 at *
          clear hb5 hK HR4 HH4 HM4
          have hb6 : Below w5.heap.size w5 (w5.alloc (.cells (ra r) 56 (0, 0))) := (Below.refl _ _).alloc (Nat.le_refl _) _
          have HL6 := Lib.hid (heap_alloc_last w5 (.cells (ra r) 56 (0, 0)))
          have HR6 := Lib.hid (Kd.R_below HR5.out hb6)
          have HH6 := Lib.hid (has_b HH5.out hb6 (Err.lt_of_block HH5.out))
          have HM6 := Lib.hid (HM5.out.on_below hb6 (Nat.le_refl _))
          have hsz6 : w.heap.size ≤ (w5.alloc (.cells (ra r) 56 (0, 0))).heap.size := HM6.out.size
          clear hb6 HR5 HH5 HM5
          go_wp2_with (first
            | (refine wl_loadR K r HK5.out rfl _ rfl rfl ?_)
            | (refine wl_litR r rfl _ rfl rfl ?_)
            | (at_builtin
               refine Kd.R_append_rows rk (w0 := w5.alloc (.cells (ra r) 56 (0, 0))) w.heap.size rfl (.tmp 28) (.tmp 30) 30 56 (.agg #[.int .i64 0, .int .i64 0, .int .u32 0]) 24 rfl Tryd.underlying30 infoR rfl (by decide) (by decide) (.slice vx vn vc) acc [r] _ _ _ (fun _ => True) (fun _ => False) rfl rfl HR6.out (readsR _ _ r HL6.out) (fun y cs hy => by subst hy; exact k56_mkM _ _ _ _) (fun _ h => h.elim) (fun _ _ => trivial) (Below.refl _ _) hsz6 (by omega) ?_
               intro v8 w8 ho hb hg hn))
          have HR8 := Lib.hid ho
          have HH8 := Lib.hid (has_b HH6.out hb hRl)
          have HM8 := Lib.hid (mod_b HM6.out hb (Nat.le_refl _))
          clear ho hb hg hn HR6 HH6 HM6 HL6 HK5
          go_roundg k1
          case measure => exact Nat.lt_succ_self _
          case rel => exact ⟨i + 1, acc ++ [r], q1, by simp, by omega, by rw [List.length_append, hacc]; rfl, HR8, HH8, HM8, HU4⟩
        · have HH4 := Lib.hid hh
          have HU4 := Lib.hid (show U = none by
            rw [← HU.out]
            show ((refP s q).bind fun a => (refsIt s k1 a.2).bind fun b => some (a.1 :: b.1, b.2)).bind (fun b => some (acc ++ b.1, b.2)) = none
            rw [hy]; rfl)
          have HE := Lib.hid hi
          clear ha hm hh hq hy hi HR HH HM HU
          go_upto_region 8 with (first
            | (refine wl_allocR rfl rfl ?_)
            | (refine wl_storeRn #[.int .i64 0, .int .i64 0, .int .u32 0] rfl ⟨0, 0, 0⟩ rfl _ _ rfl rfl rfl ?_))
          have hb5 : Below w4.heap.size w4 (w4.alloc (Obj.cells (ra ⟨0, 0, 0⟩) 56 (0, 0))) := (Below.refl _ _).alloc (Nat.le_refl _) _
          have HE5 := Lib.hid (HE.out.on hb5)
          have HH5 := Lib.hid (has_b HH4.out hb5 (Err.lt_of_block HH4.out))
          have HM5 := Lib.hid (HM4.out.on_below hb5 (Nat.le_refl _))
          generalize (w4.alloc (Obj.cells (ra ⟨0, 0, 0⟩) 56 (0, 0))) = w5 at *
          clear hb5 HE HH4 HM4
          go_wp2_with fail
          go_ret2
          exact ⟨HM5.out, .inr ⟨HU4.out, ⟨T, x, rfl, HE5.out⟩, q1, HH5.out⟩⟩
  · have HU2 := Lib.hid (show U = none by
      rw [← HU.out]
      unfold refsP
      rw [hn]; rfl)
    have HE := Lib.hid hi
    clear hn ha hm hh hi HU
    go_wp2_with fail
    go_ret2
    exact ⟨HM2.out, .inr ⟨HU2.out, ⟨T, x, rfl, HE.out⟩, q0, HH2.out⟩⟩
end Go.Proofs.YtpijilfkmkdghaaDoor.Mni
