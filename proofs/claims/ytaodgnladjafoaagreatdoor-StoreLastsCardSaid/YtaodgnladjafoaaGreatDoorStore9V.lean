/- Words that the proof uses. -/
import Derived.Test.YtaodgnladjafoaaGreatDoorStore5V
import Derived.Lib.SliceRun
set_option linter.unusedVariables false
set_option linter.unusedSimpArgs false
namespace Go.Proofs.YtaodgnladjafoaaGreatDoor.Sto
open Go.RowKit Go.Proofs.YtaodgnladjafoaaGreatDoorW.PrintWords Go.Proofs.YtaodgnladjafoaaGreatDoorW.PrintLast Go.Proofs.YtaodgnladjafoaaGreatDoorW.PrintMore Go.Proofs.YtaodgnladjafoaaGreatDoor.Md Go.Proofs.YtaodgnladjafoaaGreatDoor.Mni Go.Proofs.YtaodgnladjafoaaGreatDoor.QStoreLasts
open Go.Proofs.YtaodgnladjafoaaGreatDoor.Dk (Dsk IsD Ft)
open Go.Proofs.YtaodgnladjafoaaGreatDoor.Slt (Sl switched switch_ok)
open Go.Proofs.YtaodgnladjafoaaGreatDoor.Err (Laid IsErr code_nil code_c Chain at_some at_nil)
theorem infoI : (Tryz.prog.info? 3).map (fun i => (i.zero, i.size, i.bytes)) = some (some (.int .i64 0), 1, 8) := by kernel_rfl
theorem infoLs : (Tryz.prog.info? 40).map (fun i => (i.zero, i.size, i.bytes)) = some (some (.slice none 0 0), 1, 24) := by kernel_rfl
theorem exec_nilsr {ρ : Operand → Value} {oo : Oper} {p q : Operand} {W : World} {A : Option Addr} {n c : Nat} (ho : oo.op = .binOp .eql 33 p q 33) (hx : ρ p = .slice A n c) (hy : ρ q = .slice none 0 0) : (execOp ρ oo).run Tryz.prog W = .ok (.value (.bool A.isNone)) W := by
  have h := Go.Lib.run_eql_slice_nil W 33 36 A n c 0 0 Tryz.underlying33
  have hg : (eqGuard .eql 33 p q (.slice A n c) (.slice none 0 0)).run Tryz.prog W = .ok () W := by kernel_rfl
  unfold execOp
  simp only [ho, hx, hy, hg, h, Sem.run_bind, Sem.run_pure, Result.andThen_ok]
theorem lit0_r {ρ : Operand → Value} {oo : Oper} (W : World) (ho : oo.op = .buildSlice 33 0 #[]) : (execOp ρ oo).run Tryz.prog W = .ok (.value (.slice (some ⟨W.heap.size, 0, none⟩) 0 0)) (W.alloc (.cells #[] 36)) := by
  unfold execOp; simp only [ho]; kernel_rfl
set_option maxHeartbeats 2000000 in
set_option maxRecDepth 100000 in
theorem clone_rR (A : Option Addr) (n c : Nat) (l : List Rf) (w : World) (h : Hid (Kd.C rk w A n l)) (hl : n ≤ 1000000) :
    Calls Tryz.prog 69 #[.slice A n c] w fun e w' => ∃ v, e = .returned v ∧ Kd.R rk 36 w' w.heap.size (fun _ => True) v l ∧ Below w.heap.size w w' := by
  have hn : l.length = n := h.out.1
  cases A with
  | none =>
    have h0 : l = [] := by
      cases l with
      | nil => rfl
      | cons x l =>
        have z := h.out.2.2 (by rw [← hn]; simp)
        obtain ⟨ad, e, _⟩ := z
        cases e
    subst h0
    clear hn hl
    go_enter Tryz.func69, Tryz.ntmps69
    go_wp2_with (first | (refine Kd.event_run rfl (exec_nilsr rfl rfl rfl) ?_))
    go_ret
    exact ⟨_, rfl, Kd.R_nil _ _ _ _ _, Below.refl _ _⟩
  | some ad =>
    have HN := Lib.hid hn
    clear hn
    go_enter Tryz.func69, Tryz.ntmps69
    go_wp2_with (first
      | (refine Kd.event_run rfl (exec_nilsr rfl rfl rfl) ?_)
      | ((with_reducible refine gate_dst (N := 5) rfl ?_)
         refine Kd.R_lit rk (w0 := w) w.heap.size 36 rfl (N := 5) rfl (xs := ([] : List Rf)) (inner := []) (ok := fun _ => True) (okp := fun _ => True) (lit0_r w rfl) (Reps.none _ _) (fun _ h => h) trivial (Below.refl _ _) (Nat.le_refl _) (by simp) ?_
         intro v1 w1 ho hb hg1 hn1
         have HO1 := Lib.hid ho
         have HB1 := Lib.hid hb
         clear ho hb hg1 hn1)
      | (at_builtin
         refine Kd.R_append_rows rk (w0 := w) w.heap.size rfl (.tmp 5) (.tmp 6) 33 36 (.agg #[.int .i64 0, .int .i64 0, .int .u32 0]) 24 rfl Tryz.underlying33 infoR rfl (by decide) (by decide) v1 [] l _ _ _ (fun _ => True) (fun _ => False) rfl rfl HO1.out (Kd.C_below h.out HB1.out) (fun y cs hy => by have e := k36_open hy; subst e; exact k36_mkM _ _ _ _) (fun _ h => h.elim) (fun _ _ => trivial) HB1.out HB1.out.size (show (0 + n) * 24 ≤ 140737488355328 by omega) ?_
         intro v2 w2 ho hb hg2 hn2
         rw [List.nil_append] at ho
         have HO2 := Lib.hid ho
         have HB2 := Lib.hid hb
         clear ho hb hg2 hn2))
    go_ret
    exact ⟨_, rfl, HO2.out, HB2.out⟩
theorem exec_nilsi {ρ : Operand → Value} {oo : Oper} {p q : Operand} {W : World} {A : Option Addr} {n c : Nat} (ho : oo.op = .binOp .eql 40 p q 40) (hx : ρ p = .slice A n c) (hy : ρ q = .slice none 0 0) : (execOp ρ oo).run Tryz.prog W = .ok (.value (.bool A.isNone)) W := by
  have h := Go.Lib.run_eql_slice_nil W 40 3 A n c 0 0 Tryz.underlying40
  have hg : (eqGuard .eql 40 p q (.slice A n c) (.slice none 0 0)).run Tryz.prog W = .ok () W := by kernel_rfl
  unfold execOp
  simp only [ho, hx, hy, hg, h, Sem.run_bind, Sem.run_pure, Result.andThen_ok]
theorem lit0_i {ρ : Operand → Value} {oo : Oper} (W : World) (ho : oo.op = .buildSlice 40 0 #[]) : (execOp ρ oo).run Tryz.prog W = .ok (.value (.slice (some ⟨W.heap.size, 0, none⟩) 0 0)) (W.alloc (.cells #[] 3)) := by
  unfold execOp; simp only [ho]; kernel_rfl
set_option maxHeartbeats 2000000 in
set_option maxRecDepth 100000 in
theorem clone_iR (A : Option Addr) (n c : Nat) (l : List Int) (w : World) (h : Hid (Kd.C (Kd.int .i64) w A n l)) (hl : n ≤ 1000000) :
    Calls Tryz.prog 70 #[.slice A n c] w fun e w' => ∃ v, e = .returned v ∧ Kd.R (Kd.int .i64) 3 w' w.heap.size (fun _ => True) v l ∧ Below w.heap.size w w' := by
  have hn : l.length = n := h.out.1
  cases A with
  | none =>
    have h0 : l = [] := by
      cases l with
      | nil => rfl
      | cons x l =>
        have z := h.out.2.2 (by rw [← hn]; simp)
        obtain ⟨ad, e, _⟩ := z
        cases e
    subst h0
    clear hn hl
    go_enter Tryz.func70, Tryz.ntmps70
    go_wp2_with (first | (refine Kd.event_run rfl (exec_nilsi rfl rfl rfl) ?_))
    go_ret
    exact ⟨_, rfl, Kd.R_nil _ _ _ _ _, Below.refl _ _⟩
  | some ad =>
    have HN := Lib.hid hn
    clear hn
    go_enter Tryz.func70, Tryz.ntmps70
    go_wp2_with (first
      | (refine Kd.event_run rfl (exec_nilsi rfl rfl rfl) ?_)
      | ((with_reducible refine gate_dst (N := 5) rfl ?_)
         refine Kd.R_lit (Kd.int .i64) (w0 := w) w.heap.size 3 rfl (N := 5) rfl (xs := ([] : List Int)) (inner := []) (ok := fun _ => True) (okp := fun _ => True) (lit0_i w rfl) (Reps.none _ _) (fun _ h => h) trivial (Below.refl _ _) (Nat.le_refl _) (by simp) ?_
         intro v1 w1 ho hb hg1 hn1
         have HO1 := Lib.hid ho
         have HB1 := Lib.hid hb
         clear ho hb hg1 hn1)
      | (at_builtin
         refine Kd.R_append_rows (Kd.int .i64) (w0 := w) w.heap.size rfl (.tmp 5) (.tmp 6) 40 3 (.int .i64 0) 8 rfl Tryz.underlying40 infoI rfl (by decide) (by decide) v1 [] l _ _ _ (fun _ => True) (fun _ => False) rfl rfl HO1.out (Kd.C_below h.out HB1.out) (fun _ _ h => h) (fun _ h => h.elim) (fun _ _ => trivial) HB1.out HB1.out.size (show (0 + n) * 8 ≤ 140737488355328 by omega) ?_
         intro v2 w2 ho hb hg2 hn2
         rw [List.nil_append] at ho
         have HO2 := Lib.hid ho
         have HB2 := Lib.hid hb
         clear ho hb hg2 hn2))
    go_ret
    exact ⟨_, rfl, HO2.out, HB2.out⟩
theorem exec_nilsl {ρ : Operand → Value} {oo : Oper} {p q : Operand} {W : World} {A : Option Addr} {n c : Nat} (ho : oo.op = .binOp .eql 41 p q 41) (hx : ρ p = .slice A n c) (hy : ρ q = .slice none 0 0) : (execOp ρ oo).run Tryz.prog W = .ok (.value (.bool A.isNone)) W := by
  have h := Go.Lib.run_eql_slice_nil W 41 40 A n c 0 0 Tryz.underlying41
  have hg : (eqGuard .eql 41 p q (.slice A n c) (.slice none 0 0)).run Tryz.prog W = .ok () W := by kernel_rfl
  unfold execOp
  simp only [ho, hx, hy, hg, h, Sem.run_bind, Sem.run_pure, Result.andThen_ok]
theorem lit0_l {ρ : Operand → Value} {oo : Oper} (W : World) (ho : oo.op = .buildSlice 41 0 #[]) : (execOp ρ oo).run Tryz.prog W = .ok (.value (.slice (some ⟨W.heap.size, 0, none⟩) 0 0)) (W.alloc (.cells #[] 40)) := by
  unfold execOp; simp only [ho]; kernel_rfl
theorem reads_nil {α : Type} {Rr : α → List Value → Prop} {sz : Nat} {w : World} {A : Option Addr} : ReadsRow Rr sz w A 0 ([] : List α) := ⟨rfl, Nat.zero_le _, fun h => absurd h (by decide)⟩
set_option maxHeartbeats 2000000 in
set_option maxRecDepth 100000 in
theorem clone_lR (A : Option Addr) (c : Nat) (w : World) :
    Calls Tryz.prog 71 #[.slice A 0 c] w fun e w' => ∃ v, e = .returned v ∧ Kd.R lk 40 w' w.heap.size (fun _ => True) v ([] : List (List Int)) ∧ Below w.heap.size w w' := by
  cases A with
  | none =>
    go_enter Tryz.func71, Tryz.ntmps71
    go_wp2_with (first | (refine Kd.event_run rfl (exec_nilsl rfl rfl rfl) ?_))
    go_ret
    exact ⟨_, rfl, Kd.R_nil _ _ _ _ _, Below.refl _ _⟩
  | some ad =>
    go_enter Tryz.func71, Tryz.ntmps71
    go_wp2_with (first
      | (refine Kd.event_run rfl (exec_nilsl rfl rfl rfl) ?_)
      | ((with_reducible refine gate_dst (N := 5) rfl ?_)
         refine Kd.R_lit lk (w0 := w) w.heap.size 40 rfl (N := 5) rfl (xs := ([] : List (List Int))) (inner := []) (ok := fun _ => True) (okp := fun _ => True) (lit0_l w rfl) (Reps.none _ _) (fun _ h => h) trivial (Below.refl _ _) (Nat.le_refl _) (by simp) ?_
         intro v1 w1 ho hb hg1 hn1
         have HO1 := Lib.hid ho
         have HB1 := Lib.hid hb
         clear ho hb hg1 hn1)
      | (at_builtin
         refine Kd.R_append_rows lk (Rr := fun _ _ => False) (w0 := w) w.heap.size rfl (.tmp 5) (.tmp 6) 41 40 (.slice none 0 0) 24 rfl Tryz.underlying41 infoLs rfl (by decide) (by decide) v1 [] [] _ _ _ (fun _ => True) (fun _ => False) rfl rfl HO1.out reads_nil (fun _ _ h => h.elim) (fun _ h => h.elim) (fun _ _ => trivial) HB1.out HB1.out.size (by decide) ?_
         intro v2 w2 ho hb hg2 hn2
         rw [List.nil_append] at ho
         have HO2 := Lib.hid ho
         have HB2 := Lib.hid hb
         clear ho hb hg2 hn2))
    go_ret
    exact ⟨_, rfl, HO2.out, HB2.out⟩
def OwnM (B : Nat) (w : World) (o : Mni.Loc) (m : Man) : Prop := Kd.F rk w (fun k => B ≤ k) o.p0 m.refs.length m.refs ∧ Kd.F (Kd.int .i64) w (fun k => B ≤ k) o.p1 m.stack.length m.stack ∧ Kd.F lk w (fun k => B ≤ k) o.p3 m.snaps.length m.snaps ∧ m.refs.length ≤ o.c0 ∧ m.stack.length ≤ o.c1 ∧ m.snaps.length ≤ o.c3
theorem own_F {α : Type} {d : Kd α} {e base n c : Nat} {w : World} {A : Option Addr} {xs : List α} (hE : d.E = []) (h : d.R e w base (fun _ => True) (.slice A n c) xs) : Kd.F d w (fun k => base ≤ k) A n xs :=
  Kd.R_F (Kd.R_mono (Kd.R_tight hE h) (fun k hk => Kd.R_base h k hk.symm))
theorem OwnM.at_ {B : Nat} {w : World} {o : Mni.Loc} {m : Man} (h : OwnM B w o m) : At w o m := ⟨Kd.F_now h.1, h.2.2.2.1, Kd.F_now h.2.1, h.2.2.2.2.1, Kd.F_now h.2.2.1, h.2.2.2.2.2⟩
theorem OwnM.step {B : Nat} {w w1 : World} {o : Mni.Loc} {m : Man} (h : OwnM B w o m) (k : ∀ i, B ≤ i → i < w.heap.size → w1.heap[i]? = w.heap[i]?) : OwnM B w1 o m := ⟨Kd.F_step h.1 k, Kd.F_step h.2.1 k, Kd.F_step h.2.2.1 k, h.2.2.2⟩
theorem F_nil {w : World} {ok : Nat → Prop} {A : Option Addr} : Kd.F lk w ok A 0 ([] : List (List Int)) := fun _ _ => reads_nil
theorem C_to {α : Type} {d : Kd α} {w w1 : World} {A : Option Addr} {n : Nat} {xs : List α} (h : d.C w A n xs) (k : Below w.heap.size w w1) : d.C w1 A n xs := Kd.C_below h k
theorem OwnM.mono {B B' : Nat} {w : World} {o : Mni.Loc} {m : Man} (h : OwnM B w o m) (hB : B' ≤ B) : OwnM B' w o m := ⟨Kd.F_mono h.1 (fun k hk => Nat.le_trans hB hk), Kd.F_mono h.2.1 (fun k hk => Nat.le_trans hB hk), Kd.F_mono h.2.2.1 (fun k hk => Nat.le_trans hB hk), h.2.2.2⟩
set_option maxHeartbeats 4000000 in
set_option maxRecDepth 100000 in
theorem copied_s (o : Mni.Loc) (refs : List Rf) (stack : List Int) (upper : Int) (w : World) (h : Hid (At w o ⟨refs, stack, upper, []⟩)) (hrl : refs.length ≤ 1000000) (hsl : stack.length ≤ 1000000) :
    Calls Tryz.prog 42 #[.agg (Loc.a o ⟨refs, stack, upper, []⟩)] w fun e w' => ∃ o', e = .returned (.agg (Loc.a o' ⟨refs, stack, upper, []⟩)) ∧ OwnM w.heap.size w' o' ⟨refs, stack, upper, []⟩ ∧ Below w.heap.size w w' := by
  obtain ⟨nr, hnr⟩ : ∃ nr, refs.length = nr := ⟨_, rfl⟩
  obtain ⟨ns, hns⟩ : ∃ ns, stack.length = ns := ⟨_, rfl⟩
  have HNr := Lib.hid hnr
  have HNs := Lib.hid hns
  have hr : nr ≤ 1000000 := by omega
  have hs : ns ≤ 1000000 := by omega
  have ea : Loc.a o ⟨refs, stack, upper, []⟩ = #[.slice o.p0 nr o.c0, .slice o.p1 ns o.c1, .int .i64 upper, .slice o.p3 0 o.c3] := by
    rw [← hnr, ← hns]; rfl
  have hh : Hid (At w o ⟨refs, stack, upper, []⟩ ∧ Kd.C rk w o.p0 nr refs ∧ Kd.C (Kd.int .i64) w o.p1 ns stack) := Lib.hid ⟨h.out, by rw [← hnr]; exact h.out.r, by rw [← hns]; exact h.out.s⟩
  rw [ea]
  clear hnr hns ea h hrl hsl
  go_enter Tryz.func42, Tryz.ntmps42
  go_upto_region 1 with (first | (refine wl_allocM rfl rfl ?_))
  have hb1 : Below w.heap.size w (w.alloc (Obj.cells #[.slice o.p0 nr o.c0, .slice o.p1 ns o.c1, .int .i64 upper, .slice o.p3 0 o.c3] 43 (0, 0))) := (Below.refl _ _).alloc (Nat.le_refl _) _
  have hX1 := heap_alloc_last w (Obj.cells #[.slice o.p0 nr o.c0, .slice o.p1 ns o.c1, .int .i64 upper, .slice o.p3 0 o.c3] 43 (0, 0))
  obtain ⟨X, hX⟩ : ∃ X, w.heap.size = X := ⟨_, rfl⟩
  have hs1 : (w.alloc (Obj.cells #[.slice o.p0 nr o.c0, .slice o.p1 ns o.c1, .int .i64 upper, .slice o.p3 0 o.c3] 43 (0, 0))).heap.size = X + 1 := (alloc_size _ _).trans (by rw [hX])
  rw [hX] at hX1
  try simp only [hX]
  try rw [hs1]
  generalize (w.alloc (Obj.cells #[.slice o.p0 nr o.c0, .slice o.p1 ns o.c1, .int .i64 upper, .slice o.p3 0 o.c3] 43 (0, 0))) = w1 at *
  have hd2 : Below w1.heap.size w1 (w1.alloc (Obj.cells #[.slice none 0 0, .slice none 0 0, .int .i64 0, .slice none 0 0] 43 (0, 0))) := (Below.refl _ _).alloc (Nat.le_refl _) _
  have HX2 := blk_to (Lib.hid hX1) hd2
  have HB2 := below_to (Lib.hid hb1) (Nat.le_refl _) hd2
  have hY2 := heap_alloc_last w1 (Obj.cells #[.slice none 0 0, .slice none 0 0, .int .i64 0, .slice none 0 0] 43 (0, 0))
  have hs2 : (w1.alloc (Obj.cells #[.slice none 0 0, .slice none 0 0, .int .i64 0, .slice none 0 0] 43 (0, 0))).heap.size = X + 1 + 1 := (alloc_size _ _).trans (by rw [hs1])
  rw [hs1] at hY2
  have HY2 := Lib.hid hY2
  generalize (w1.alloc (Obj.cells #[.slice none 0 0, .slice none 0 0, .int .i64 0, .slice none 0 0] 43 (0, 0))) = w2 at *
  obtain ⟨Y, hY⟩ : ∃ Y, X + 1 = Y := ⟨_, rfl⟩
  rw [hY] at HY2
  try simp only [hY]
  have HYX := Lib.hid (show Y ≠ X by omega)
  have HYw := Lib.hid (show w.heap.size ≤ Y ∧ Y < w2.heap.size by omega)
  have HXw := Lib.hid (show w.heap.size ≤ X ∧ X < w2.heap.size by omega)
  clear hb1 hX hX1 hs1 hs2 hd2 hY2 hY
  have h := Lib.hid hh.out.1
  have hdd : Below w2.heap.size w2 (World.drew w2) := (Below.refl _ _).drew
  have HXd := blk_to HX2 hdd
  have HYd := blk_to HY2 hdd
  have HBd := below_to HB2 (Nat.le_refl _) hdd
  have HZd := Lib.hid hdd
  clear hdd HX2 HY2 HB2
  refine start_ (n := 15) (S := fun w' => w'.cell? ⟨X, 0, none⟩ = some (.slice o.p0 nr o.c0) ∧ w'.cell? ⟨X, 1, none⟩ = some (.slice o.p1 ns o.c1) ∧ w'.cell? ⟨X, 3, none⟩ = some (.slice o.p3 0 o.c3)) (ds := [10, 12, 14]) (bzz 15 0) (by kernel_rfl) rfl rfl ⟨(Err.cell_of_blk HXd.out 0), (Err.cell_of_blk HXd.out 1), (Err.cell_of_blk HXd.out 3)⟩ (fun hHeld => ?_)
  refine rpz 0 5 ?_ (bzz 15 1) rfl rfl ?_ ?_ ?_ ?_
  rotate_left
  · intro w'
    go_simp
    with_reducible rfl
  rotate_left
  · simp only [zaP, zsA, zsZ, zsS, i64_w, i32_w]
    rfl
  refine rpz 3 8 ?_ (bzz 15 9) rfl rfl ?_ ?_ ?_ ?_
  rotate_left
  · intro w'
    go_simp
    with_reducible rfl
  rotate_left
  · simp only [zaP, zsA, zsZ, zsS, i64_w, i32_w]
    rfl
  refine rpz 6 11 ?_ (bzz 15 73) rfl rfl ?_ ?_ ?_ ?_
  rotate_left
  · intro w'
    go_simp
    with_reducible rfl
  rotate_left
  · simp only [zaP, zsA, zsZ, zsS, i64_w, i32_w]
    rfl
  refine rtz 1 6 ?_ (bzz 15 75) rfl rfl hHeld ?_ ?_ ?_ ?_
  rotate_left
  · rintro w' ⟨s0, s1, s2⟩
    go_simp
    with_reducible rfl
  rotate_left
  · simp only [zaP, zsA, zsZ, zsS, i64_w, i32_w]
    rfl
  refine rtz 4 9 ?_ (bzz 15 91) rfl rfl hHeld ?_ ?_ ?_ ?_
  rotate_left
  · rintro w' ⟨s0, s1, s2⟩
    go_simp
    with_reducible rfl
  rotate_left
  · simp only [zaP, zsA, zsZ, zsS, i64_w, i32_w]
    rfl
  refine rtz 7 12 ?_ (bzz 15 219) rfl rfl hHeld ?_ ?_ ?_ ?_
  rotate_left
  · rintro w' ⟨s0, s1, s2⟩
    go_simp
    with_reducible rfl
  rotate_left
  · simp only [zaP, zsA, zsZ, zsS, i64_w, i32_w]
    rfl
  refine roz 2 7 (bzz 15 223) rfl rfl (fun K hK => ?_)
  refine goes_ Tryz.func69 (by kernel_rfl) rfl #[.slice o.p0 nr o.c0] (by rfl) rfl rfl (by simp only [List.map_toArray, List.map_cons, List.map_nil]; rfl) ?_
  with_reducible refine (clone_rR o.p0 nr o.c0 refs _ (Lib.hid (C_to hh.out.2.1 HBd.out)) hr).mono ?_
  rintro e w3 ⟨v3, rfl, hv, hd⟩
  refine ⟨_, rfl, ?_⟩
  obtain ⟨A3, c3, e3⟩ := Kd.R_slice hv
  rw [HNr.out] at e3
  obtain rfl : v3 = .slice A3 nr c3 := e3
  have HV3 := Lib.hid (Kd.R_lower hv (show w2.heap.size ≤ _ from HZd.out.size))
  have HB3 := below_to HBd (Nat.le_refl _) hd
  have HZ3 := below_to HZd (Nat.le_refl _) hd
  have HX3 := blk_to HXd hd
  have HY3 := blk_to HYd hd
  clear hv hd
  refine hK.out _ _ ⟨(Err.cell_of_blk HX3.out 0), (Err.cell_of_blk HX3.out 1), (Err.cell_of_blk HX3.out 3)⟩ (fun hHeld => ?_)
  clear hK K
  refine norm_ (a' := ?_) ?_ ?_
  rotate_left
  · show Act.put _ (some 7) _ = _
    simp only [zaP, zsA, zsZ, zsS, i64_w, i32_w]
    rfl
  refine rpz 9 14 ?_ (bzz 15 735) rfl rfl ?_ ?_ ?_ ?_
  rotate_left
  · intro w'
    go_simp
    with_reducible rfl
  rotate_left
  · simp only [zaP, zsA, zsZ, zsS, i64_w, i32_w]
    rfl
  refine roz 5 10 (bzz 15 767) rfl rfl (fun K hK => ?_)
  refine goes_ Tryz.func70 (by kernel_rfl) rfl #[.slice o.p1 ns o.c1] (by rfl) rfl rfl (by simp only [List.map_toArray, List.map_cons, List.map_nil]; rfl) ?_
  with_reducible refine (clone_iR o.p1 ns o.c1 stack _ (Lib.hid (C_to hh.out.2.2 HB3.out)) hs).mono ?_
  rintro e w4 ⟨v4, rfl, hv, hd⟩
  refine ⟨_, rfl, ?_⟩
  obtain ⟨A4, c4, e4⟩ := Kd.R_slice hv
  rw [HNs.out] at e4
  obtain rfl : v4 = .slice A4 ns c4 := e4
  have HV4 := Lib.hid (Kd.R_lower hv (show w2.heap.size ≤ _ from HZ3.out.size))
  have HB4 := below_to HB3 (Nat.le_refl _) hd
  have HZ4 := below_to HZ3 (Nat.le_refl _) hd
  have HX4 := blk_to HX3 hd
  have HY4 := blk_to HY3 hd
  have HV3b := Lib.hid (Kd.R_below HV3.out hd)
  clear hv hd
  refine hK.out _ _ ⟨(Err.cell_of_blk HX4.out 0), (Err.cell_of_blk HX4.out 1), (Err.cell_of_blk HX4.out 3)⟩ (fun hHeld => ?_)
  clear hK K
  refine norm_ (a' := ?_) ?_ ?_
  rotate_left
  · show Act.put _ (some 10) _ = _
    simp only [zaP, zsA, zsZ, zsS, i64_w, i32_w]
    rfl
  refine roz 8 13 (bzz 15 1023) rfl rfl (fun K hK => ?_)
  refine goes_ Tryz.func71 (by kernel_rfl) rfl #[.slice o.p3 0 o.c3] (by rfl) rfl rfl (by simp only [List.map_toArray, List.map_cons, List.map_nil]; rfl) ?_
  with_reducible refine (clone_lR o.p3 o.c3 _).mono ?_
  rintro e w5 ⟨v5, rfl, hv, hd⟩
  refine ⟨_, rfl, ?_⟩
  obtain ⟨A5, c5, e5⟩ := Kd.R_slice hv
  obtain rfl : v5 = .slice A5 0 c5 := e5
  have HV5 := Lib.hid (Kd.R_lower hv (show w2.heap.size ≤ _ from HZ4.out.size))
  have HB5 := below_to HB4 (Nat.le_refl _) hd
  have HZ5 := below_to HZ4 (Nat.le_refl _) hd
  have HX5 := blk_to HX4 hd
  have HY5 := blk_to HY4 hd
  have HV3c := Lib.hid (Kd.R_below HV3b.out hd)
  have HV4b := Lib.hid (Kd.R_below HV4.out hd)
  clear hv hd
  have c0 := Err.cell_of_blk HX5.out 0
  have c1 := Err.cell_of_blk HX5.out 1
  have c3_ := Err.cell_of_blk HX5.out 3
  have f0 : w5.frozen? ⟨X, 0, none⟩ = false := by simp [World.frozen?, HX5.out]
  have f1 : w5.frozen? ⟨X, 1, none⟩ = false := by simp [World.frozen?, HX5.out]
  have f3 : w5.frozen? ⟨X, 3, none⟩ = false := by simp [World.frozen?, HX5.out]
  refine hK.out _ _ ⟨(Err.cell_of_blk HX5.out 0), (Err.cell_of_blk HX5.out 1), (Err.cell_of_blk HX5.out 3)⟩ (fun hHeld => ?_)
  clear hK K
  refine norm_ (a' := ?_) ?_ ?_
  rotate_left
  · show Act.put _ (some 13) _ = _
    simp only [zaP, zsA, zsZ, zsS, i64_w, i32_w]
    rfl
  refine last_ (i := 10) (N := none) (bzz 15 2047) rfl rfl (by kernel_rfl) (by decide) (fun K hK => ?_)
  refine skip_ (w1 := ?_) (by rfl) rfl ?_ ?_
  rotate_left
  · go_simp
    rfl
  refine hK.out _ _ ?_
  clear hK K
  refine rpz 11 15 ?_ (bzz 15 4095) rfl rfl ?_ ?_ ?_ ?_
  rotate_left
  · intro w'
    go_simp
    with_reducible rfl
  rotate_left
  · simp only [zaP, zsA, zsZ, zsS, i64_w, i32_w]
    rfl
  refine last_ (i := 12) (N := none) (bzz 15 8191) rfl rfl (by kernel_rfl) (by decide) (fun K hK => ?_)
  refine skip_ (w1 := ?_) (by rfl) rfl ?_ ?_
  rotate_left
  · go_simp
    rfl
  refine hK.out _ _ ?_
  clear hK K
  refine rpz 13 16 ?_ (bzz 15 16383) rfl rfl ?_ ?_ ?_ ?_
  rotate_left
  · intro w'
    go_simp
    with_reducible rfl
  rotate_left
  · simp only [zaP, zsA, zsZ, zsS, i64_w, i32_w]
    rfl
  refine last_ (i := 14) (N := none) (bzz 15 32767) rfl rfl (by kernel_rfl) (by decide) (fun K hK => ?_)
  refine skip_ (w1 := ?_) (by rfl) rfl ?_ ?_
  rotate_left
  · go_simp
    rfl
  refine hK.out _ _ ?_
  clear hK K
  refine done_ (by kernel_rfl) ?_
  clear hHeld HXd HYd HBd HX3 HY3 HB3 HX4 HY4 HB4 HZd HZ3 HZ4 HV3 HV3b HV4 c0 c1 c3_ f0 f1 f3 h
  have k0 : Mod (· = X) w5 (((w5.setCell ⟨X, 0, none⟩ (.slice A3 nr c3)).setCell ⟨X, 1, none⟩ (.slice A4 ns c4)).setCell ⟨X, 3, none⟩ (.slice A5 0 c5)) := (((Mod.refl (· = X) w5).set _ _ (.inl rfl)).set _ _ (.inl rfl)).set _ _ (.inl rfl)
  have HX6 := Lib.hid (show (((w5.setCell ⟨X, 0, none⟩ (.slice A3 nr c3)).setCell ⟨X, 1, none⟩ (.slice A4 ns c4)).setCell ⟨X, 3, none⟩ (.slice A5 0 c5)).heap[X]? = some (Obj.cells #[.slice A3 nr c3, .slice A4 ns c4, .int .i64 upper, .slice A5 0 c5] 43 (0, 0)) from Blb.set1 (Blb.set1 (Blb.set1 HX5.out 0 _) 1 _) 3 _)
  have HY6 := Lib.hid (k0.blk HY5.out HYX.out)
  have HB6 := Lib.hid (HB5.out.trans (k0.below HB5.out.size (fun i hi (e : i = X) => by have := HXw.out; omega)))
  have hown5 : OwnM w2.heap.size w5 ⟨A3, c3, A4, c4, A5, c5⟩ ⟨refs, stack, upper, []⟩ := by
    have g3 := Kd.R_reads' HV3c.out
    have g4 := Kd.R_reads' HV4b.out
    refine ⟨?_, ?_, F_nil, ?_, ?_, Nat.zero_le _⟩
    · have z := own_F rfl HV3c.out
      rw [← HNr.out] at z
      exact z
    · have z := own_F rfl HV4b.out
      rw [← HNs.out] at z
      exact z
    · have := g3.2.1
      rw [← HNr.out] at this
      exact this
    · have := g4.2.1
      rw [← HNs.out] at this
      exact this
  have HO6 := Lib.hid (hown5.step (w1 := (((w5.setCell ⟨X, 0, none⟩ (.slice A3 nr c3)).setCell ⟨X, 1, none⟩ (.slice A4 ns c4)).setCell ⟨X, 3, none⟩ (.slice A5 0 c5))) (fun i hi hl => k0.block i hl (fun (e : i = X) => by have := HXw.out; omega)))
  generalize (((w5.setCell ⟨X, 0, none⟩ (.slice A3 nr c3)).setCell ⟨X, 1, none⟩ (.slice A4 ns c4)).setCell ⟨X, 3, none⟩ (.slice A5 0 c5)) = w6 at *
  clear k0 HX5 HY5 HB5 hown5 HV3c HV4b HV5
  have c3_ := Err.cell_of_blk HX6.out 3
  have t0 : decide ((0 : Int) < ((0 : Nat) : Int)) = false := by decide
  have ea : (#[.slice A3 nr c3, .slice A4 ns c4, .int .i64 upper, .slice A5 0 c5] : Array Value) = Loc.a ⟨A3, c3, A4, c4, A5, c5⟩ ⟨refs, stack, upper, []⟩ := by
    rw [← HNr.out, ← HNs.out]; rfl
  have HEa := Lib.hid ea
  have HX6r := Lib.hid (show w6.heap[X]? = some (Obj.cells (Loc.a ⟨A3, c3, A4, c4, A5, c5⟩ ⟨refs, stack, upper, []⟩) 43 (0, 0)) by rw [← ea]; exact HX6.out)
  clear ea HX6
  go_wp2_with fail
  go_loopg [20] 0 (fun kq v20 wr => v20 = .int .i64 0 ∧ wr = w6)
  case atStart => exact ⟨rfl, rfl⟩
  case round =>
    obtain ⟨rfl, rfl⟩ := hrel
    clear c3_
    go_wp2_with (first | (refine wl_loadM X ⟨A3, c3, A4, c4, A5, c5⟩ ⟨refs, stack, upper, []⟩ HX6r.out rfl _ rfl rfl ?_) | (refine wl_storeM Y #[.slice none 0 0, .slice none 0 0, .int .i64 0, .slice none 0 0] rfl ⟨A3, c3, A4, c4, A5, c5⟩ ⟨refs, stack, upper, []⟩ HY6.out rfl _ _ rfl rfl rfl ?_))
    (try simp only [Exit.inBlock, Exit.then])
    refine bodyPost_ret (v := .agg (Loc.a ⟨A3, c3, A4, c4, A5, c5⟩ ⟨refs, stack, upper, []⟩)) ?_ rfl ?_
    · exact copied_results _ _ Y _ rfl rfl (setRow_heap _ Y _ _ _ _ HY6.out)
    have k7 := mod_row wr Y (Loc.a ⟨A3, c3, A4, c4, A5, c5⟩ ⟨refs, stack, upper, []⟩)
    refine ⟨⟨A3, c3, A4, c4, A5, c5⟩, rfl, ?_, HB6.out.trans (k7.below HB6.out.size (fun i hi (e : i = Y) => by have := HYw.out; omega))⟩
    have z := HO6.out.step (w1 := wr.setRow Y (Loc.a ⟨A3, c3, A4, c4, A5, c5⟩ ⟨refs, stack, upper, []⟩)) (fun i hi hl => k7.block i hl (fun (e : i = Y) => by have := HYw.out; omega))
    exact z.mono (by have := HYw.out; omega)
end Go.Proofs.YtaodgnladjafoaaGreatDoor.Sto
