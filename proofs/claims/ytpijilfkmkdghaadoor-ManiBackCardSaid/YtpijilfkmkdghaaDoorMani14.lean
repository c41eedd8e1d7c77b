/- mani.list and mani.refs at any bytes. -/
import Derived.Test.YtpijilfkmkdghaaDoorMani13
import Derived.Test.YtpijilfkmkdghaaDoorMani11
set_option linter.unusedVariables false
set_option linter.unusedSimpArgs false
namespace Go.Proofs.YtpijilfkmkdghaaDoor.Mni
open Go.RowKit Go.Proofs.YtpijilfkmkdghaaDoorW.PrintWords Go.Proofs.YtpijilfkmkdghaaDoorW.PrintLast Go.Proofs.YtpijilfkmkdghaaDoorW.PrintMore Go.Proofs.YtpijilfkmkdghaaDoor.Md Go.Proofs.YtpijilfkmkdghaaDoor.QManiBack Go.Proofs.YtpijilfkmkdghaaDoor.CdM
open Go.Proofs.YtpijilfkmkdghaaDoor.Err (Laid IsErr code_nil code_c Chain at_some at_nil)
open Go.Proofs.YtpijilfkmkdghaaDoor.Rdr (NumTo NumAt NoNumTo RefAt On Has refA)
theorem mod_b {S : Nat → Prop} {a b c : World} {B : Nat} (h : Mod S a b) (k : Below B b c) (hB : a.heap.size ≤ B) : Mod S a c :=
  ⟨k.os.trans h.os, k.tape.trans h.tape, k.output.trans h.output, Nat.le_trans h.size k.size, fun i hi hs => (k.block i (Nat.lt_of_lt_of_le hi hB)).trans (h.block i hi hs)⟩
theorem has_b {w w' : World} {R B : Nat} {s : ByteArray} {p : Nat} (h : Has w R s p) (k : Below B w w') (hB : R < B) : Has w' R s p := (k.block R hB).trans h
theorem row_R {α : Type} {d : Kd α} {e base R : Nat} {w w' : World} {v : Value} {xs : List α} (h : d.R e w base (fun _ => True) v xs) (hE : d.E = []) (k : Mod (· = R) w w') (hR : R < base) : d.R e w' base (fun _ => True) v xs :=
  row_on hE h k (fun b hb (e2 : b = R) => by have := Kd.R_base h b hb; omega)
set_option maxHeartbeats 4000000 in
set_option maxRecDepth 100000 in
theorem list_c (R : Nat) (s : ByteArray) (p : Nat) (w : World) (h : Hid (Has w R s p)) (hs : s.size ≤ 4611686018427387904) :
    Calls Tryd.prog 42 #[.pointer (some ⟨R, 0, none⟩)] w fun ev w' => Mod (· = R) w w' ∧ ((∃ l q v, listP s p = some (l, q) ∧ ev = .returned (.tuple #[v, .nilIface]) ∧ (Kd.int .i64).R 3 w' w.heap.size (fun _ => True) v l ∧ Has w' R s q) ∨ (listP s p = none ∧ (∃ T x, ev = .returned (.tuple #[.slice none 0 0, .iface T x]) ∧ IsErr w' (.iface T x) 13) ∧ ∃ q, Has w' R s q)) := by
  have hRl : R < w.heap.size := Err.lt_of_block h.out
  obtain ⟨U, hU⟩ : ∃ U, listP s p = U := ⟨_, rfl⟩
  have HU := Lib.hid hU
  rw [hU]
  clear hU
  go_enter Tryd.func42, Tryd.ntmps42
  go_wp2_with fail
  refine (Rdr.num_any R s p 9 w h hs).mono ?_
  rintro e w2 ⟨n0, e0, q0, rfl, ha, hm, hh⟩
  have HM2 := Lib.hid hm
  have HH2 := Lib.hid hh
  rcases numAt_P ha with ⟨n, hn, rfl, rfl, hn9⟩ | ⟨hn, rfl, T, x, rfl, hi⟩
  · have HU2 := Lib.hid (show (itemsP s n q0).bind (fun b => some ([] ++ b.1, b.2)) = U by
      rw [← HU.out]
      unfold listP
      rw [hn, Option.bind_some]
      show (itemsP s n q0).bind _ = itemsP s n q0
      cases itemsP s n q0 <;> rfl)
    clear hn ha hm hh HU
    go_wp2_with fail
    go_loopg [6, 18] n (fun kq v6 v18 wr => ∃ (i : Nat) (acc : List Int) (q : Nat), v18 = .int .i64 (i : Int) ∧ kq + i = n ∧ acc.length = i ∧ Hid ((Kd.int .i64).R 3 wr w.heap.size (fun _ => True) v6 acc) ∧ Hid (Has wr R s q) ∧ Hid (Mod (· = R) w wr) ∧ Hid ((itemsP s kq q).bind (fun b => some (acc ++ b.1, b.2)) = U))
    case atStart => exact ⟨0, [], q0, rfl, rfl, rfl, Lib.hid (Kd.R_nil _ _ _ _ _), HH2, HM2, HU2⟩
    case round =>
      clear HH2 HM2 HU2
      obtain ⟨i, acc, q, rfl, hk, hacc, HR, HH, HM, HU⟩ := hrel
      generalize wr = w3 at *
      obtain ⟨vx, vn, vc, rfl⟩ := r_sl HR.out
      cases gk with
      | zero =>
        have c1 : decide ((i : Int) < (n : Int)) = false := decide_eq_false (by omega)
        have c1b : decide (i < n) = false := decide_eq_false (by omega)
        have HU3 := Lib.hid (show some (acc, q) = U by rw [← HU.out]; show _ = some (acc ++ [], q); rw [List.append_nil])
        clear HU hk
        go_wp2_with fail
        go_ret2
        exact ⟨HM.out, .inl ⟨acc, q, _, HU3.out.symm, rfl, HR.out, HH.out⟩⟩
      | succ k1 =>
        have hin : i < n := by omega
        have c1 : decide ((i : Int) < (n : Int)) = true := decide_eq_true (by omega)
        have c1b : decide (i < n) = true := decide_eq_true hin
        have q5 : IntKind.i64.wrap ((i : Int) + 1) = (i : Int) + 1 := IntWalk.i64_in _ (by omega)
        go_wp2_with fail
        refine (Rdr.num_any R s q 64 w3 HH hs).mono ?_
        rintro e w4 ⟨n1, e1, q1, rfl, ha, hm, hh⟩
        have HM4 := Lib.hid (HM.out.tr hm)
        have HH4 := Lib.hid hh
        have HR4 := Lib.hid (row_R HR.out rfl hm hRl)
        rcases numAt_P ha with ⟨y, hy, rfl, rfl, hy64⟩ | ⟨hy, rfl, T, x, rfl, hi⟩
        · have HU4 := Lib.hid (show (itemsP s k1 q1).bind (fun b => some ((acc ++ [(y : Int)]) ++ b.1, b.2)) = U by
            rw [← HU.out]
            show _ = ((numP s q 64).bind fun a => (itemsP s k1 a.2).bind fun b => some ((a.1 : Int) :: b.1, b.2)).bind (fun b => some (acc ++ b.1, b.2))
            rw [hy, Option.bind_some]
            cases itemsP s k1 q1 with
            | none => rfl
            | some b => show some ((acc ++ [(y : Int)]) ++ b.1, b.2) = some (acc ++ ((y : Int) :: b.1), b.2); rw [List.append_assoc]; rfl)
          clear ha hm hh hy HR HH HM HU
          have hb5 : Below w4.heap.size w4 (w4.alloc (.cells #[.int .i64 (y : Int)] 3 (0, 0))) := (Below.refl _ _).alloc (Nat.le_refl _) _
          have hL5 := heap_alloc_last w4 (.cells #[.int .i64 (y : Int)] 3 (0, 0))
          have HC5 := Lib.hid (c_ints [(y : Int)] hL5 rfl (by simp) (by simp))
          have HR5 := Lib.hid (Kd.R_below HR4.out hb5)
          have HH5 := Lib.hid (has_b HH4.out hb5 (Err.lt_of_block HH4.out))
          have HM5 := Lib.hid (HM4.out.on_below hb5 (Nat.le_refl _))
          have hsz5 : w.heap.size ≤ (w4.alloc (.cells #[.int .i64 (y : Int)] 3 (0, 0))).heap.size := HM5.out.size
          clear hL5 hb5 HR4 HH4 HM4
          go_wp2_with (first
            | (refine wl_litI (y : Int) rfl _ rfl rfl ?_)
            | (at_builtin
               refine Kd.R_append_rows (Kd.int .i64) (w0 := w4.alloc (.cells #[.int .i64 (y : Int)] 3 (0, 0))) w.heap.size rfl (.tmp 28) (.tmp 30) 23 3 (.int .i64 0) 8 rfl Tryd.underlying23 infoI rfl (by decide) (by decide) (.slice vx vn vc) acc [(y : Int)] _ _ _ (fun _ => True) (fun _ => False) rfl rfl HR5.out HC5.out (fun _ _ h => h) (fun _ h => h.elim) (fun _ _ => trivial) (Below.refl _ _) hsz5 (by omega) ?_
               intro v8 w8 ho hb hg hn))
          have HR8 := Lib.hid ho
          have HH8 := Lib.hid (has_b HH5.out hb hRl)
          have HM8 := Lib.hid (mod_b HM5.out hb (Nat.le_refl _))
          clear ho hb hg hn HR5 HH5 HM5 HC5
          go_roundg k1
          case measure => exact Nat.lt_succ_self _
          case rel => exact ⟨i + 1, acc ++ [(y : Int)], q1, by simp, by omega, by rw [List.length_append, hacc]; rfl, HR8, HH8, HM8, HU4⟩
        · have HU4 := Lib.hid (show U = none by
            rw [← HU.out]
            show ((numP s q 64).bind fun a => (itemsP s k1 a.2).bind fun b => some ((a.1 : Int) :: b.1, b.2)).bind (fun b => some (acc ++ b.1, b.2)) = none
            rw [hy]; rfl)
          have HE := Lib.hid hi
          clear ha hm hh hy hi HR HH HM HU
          go_wp2_with fail
          go_ret2
          exact ⟨HM4.out, .inr ⟨HU4.out, ⟨T, x, rfl, HE.out⟩, q1, HH4.out⟩⟩
  · have HU2 := Lib.hid (show U = none by
      rw [← HU.out]
      unfold listP
      rw [hn]; rfl)
    have HE := Lib.hid hi
    clear hn ha hm hh hi HU
    go_wp2_with fail
    go_ret2
    exact ⟨HM2.out, .inr ⟨HU2.out, ⟨T, x, rfl, HE.out⟩, q0, HH2.out⟩⟩
end Go.Proofs.YtpijilfkmkdghaaDoor.Mni
