/- Words that the proof uses. -/
import Derived.Test.YtaodgnladjafoaaGreatDoorStore11V
set_option linter.unusedVariables false
set_option linter.unusedSimpArgs false
namespace Go.Proofs.YtaodgnladjafoaaGreatDoor.Sto
open Go.RowKit Go.Proofs.YtaodgnladjafoaaGreatDoorW.PrintWords Go.Proofs.YtaodgnladjafoaaGreatDoorW.PrintLast Go.Proofs.YtaodgnladjafoaaGreatDoorW.PrintMore Go.Proofs.YtaodgnladjafoaaGreatDoor.Md Go.Proofs.YtaodgnladjafoaaGreatDoor.Mni Go.Proofs.YtaodgnladjafoaaGreatDoor.QStoreLasts
open Go.Proofs.YtaodgnladjafoaaGreatDoor.Dk (Dsk IsD Ft)
open Go.Proofs.YtaodgnladjafoaaGreatDoor.Err (Laid IsErr code_nil code_c Chain at_some at_nil)
abbrev Hdr := Option Addr × Nat × Nat
def encH (x : Hdr) : Value := .slice x.1 x.2.1 x.2.2
abbrev hk : Kd Hdr := Kd.scalar encH (fun _ => rfl)
def Ls (w : World) (P : Nat → Nat → Prop) (ls : List (List Int)) (ys : List Hdr) : Prop := ∀ (j : Nat) (l : List Int), ls[j]? = some l → ∃ B c, ys[j]? = some (B, l.length, c) ∧ l.length ≤ c ∧ Kd.F (Kd.int .i64) w (P j) B l.length l
theorem heads_of {w : World} {A : Option Addr} {n : Nat} {ls : List (List Int)} (h : Kd.C lk w A n ls) : ∃ ys : List Hdr, Kd.C hk w A n ys ∧ ∀ (j : Nat) (l : List Int), ls[j]? = some l → ∃ B c, ys[j]? = some (B, l.length, c) ∧ l.length ≤ c ∧ Kd.F (Kd.int .i64) w (fun _ => True) B l.length l := by
  have hF := foot_lk h
  have hl := h.1
  have hex : ∀ j, ∃ y : Hdr, ∀ l, ls[j]? = some l → y.2.1 = l.length ∧ l.length ≤ y.2.2 ∧ Kd.F (Kd.int .i64) w (fun _ => True) y.1 l.length l ∧ ∃ ad, A = some ad ∧ w.cell? (ad.add j) = some (encH y) := fun j => by
    by_cases hj : j < ls.length
    · obtain ⟨ad, A0, c0, e1, e2, e3, e4⟩ := F_list hF j hj hl
      refine ⟨(A0, ls[j].length, c0), fun l e => ?_⟩
      rw [List.getElem?_eq_getElem hj] at e
      cases e
      exact ⟨rfl, e3, e4, ad, e1, e2⟩
    · exact ⟨(none, 0, 0), fun l e => by rw [List.getElem?_eq_none (by omega)] at e; cases e⟩
  refine ⟨(List.range n).map (fun j => Classical.choose (hex j)), ⟨by simp, h.2.1, fun hp => ?_⟩, fun j l hj => ?_⟩
  · obtain ⟨ad, e, _⟩ := h.2.2 hp
    refine ⟨ad, e, fun j p hj => ⟨[encH p], rfl, rfl, fun i u hu => ?_⟩⟩
    have hjn : j < n := by have := (List.getElem?_eq_some_iff.1 hj).1; simpa using this
    rw [List.getElem?_map, List.getElem?_range hjn] at hj
    cases hj
    obtain ⟨_, _, _, ad2, e2, hc⟩ := Classical.choose_spec (hex j) _ (List.getElem?_eq_getElem (show j < ls.length by omega))
    rw [e] at e2
    cases e2
    rcases i with _ | i
    · cases hu
      rw [show j * hk.sz + 0 = j from by show j * 1 + 0 = j; omega]
      exact hc
    · simp at hu
  · have hjn : j < n := by have := (List.getElem?_eq_some_iff.1 hj).1; omega
    obtain ⟨h1, h2, h3, _⟩ := Classical.choose_spec (hex j) l hj
    refine ⟨_, _, ?_, h2, h3⟩
    rw [List.getElem?_map, List.getElem?_range hjn]
    show some (Classical.choose (hex j)) = _
    rw [← h1]
theorem of_heads {w : World} {v : Nat → Nat → Prop} {A : Option Addr} {n : Nat} {ls : List (List Int)} {ys : List Hdr} (h : Kd.C hk w A n ys) (hl : ls.length = n) (hL : Ls w v ls ys) : Kd.C lk w A n ls := by
  refine ⟨hl, h.2.1, fun hp => ?_⟩
  obtain ⟨ad, e, hc⟩ := h.2.2 hp
  refine ⟨ad, e, fun j l hj => ?_⟩
  obtain ⟨B, c, e1, e2, e3⟩ := hL j l hj
  obtain ⟨cs, q1, q2, q3⟩ := hc j _ e1
  have q2 : cs = [encH (B, l.length, c)] := q2
  subst q2
  exact ⟨_, rfl, ⟨B, c, rfl, e2, Kd.F_now e3⟩, q3⟩
structure Cp (w0 wr : World) (X Y B0 : Nat) (cs : Array Value) (v3 v4 v5 : Value) (refs : List Rf) (stack : List Int) (snaps : List (List Int)) (zs : List Hdr) (j : Nat) : Prop where
  bx : wr.heap[X]? = some (Obj.cells cs 43 (0, 0))
  bY : wr.heap[Y]? = some (Obj.cells #[.slice none 0 0, .slice none 0 0, .int .i64 0, .slice none 0 0] 43 (0, 0))
  bel : Below w0.heap.size w0 wr
  r3 : Kd.R rk 36 wr B0 (fun _ => True) v3 refs
  r4 : Kd.R (Kd.int .i64) 3 wr B0 (fun _ => True) v4 stack
  r5 : Kd.R hk 40 wr B0 (fun _ => True) v5 zs
  ls : Ls wr (fun i k => v5.ownBlock ≠ some k ∧ k ≠ Y ∧ (i < j → B0 ≤ k)) snaps zs
theorem Ls.on {w w1 : World} {v : Nat → Nat → Prop} {ls : List (List Int)} {ys : List Hdr} (h : Ls w v ls ys) (k : Below w.heap.size w w1) : Ls w1 v ls ys := fun j l hj => by
  obtain ⟨B, c, e1, e2, e3⟩ := h j l hj
  exact ⟨B, c, e1, e2, Kd.F_below e3 k⟩
theorem Cp.on {w0 wr w1 : World} {X Y B0 : Nat} {cs : Array Value} {v3 v4 v5 : Value} {refs : List Rf} {stack : List Int} {snaps : List (List Int)} {zs : List Hdr} {j : Nat} (h : Cp w0 wr X Y B0 cs v3 v4 v5 refs stack snaps zs j) (k : Below wr.heap.size wr w1) : Cp w0 w1 X Y B0 cs v3 v4 v5 refs stack snaps zs j :=
  ⟨(blk_to (Lib.hid h.bx) k).out, (blk_to (Lib.hid h.bY) k).out, h.bel.trans (k.mono h.bel.size), Kd.R_below h.r3 k, Kd.R_below h.r4 k, Kd.R_below h.r5 k, h.ls.on k⟩
theorem Cp.put {w0 wr : World} {X Y B0 g n cap : Nat} {cs : Array Value} {v3 v4 : Value} {refs : List Rf} {stack : List Int} {snaps : List (List Int)} {zs : List Hdr} {j : Nat} (h : Cp w0 wr X Y B0 cs v3 v4 (.slice (some ⟨g, 0, none⟩) n cap) refs stack snaps zs j) (hB : w0.heap.size ≤ B0) (hX : X < B0) (hY : Y < B0) (l : List Int) (hj : snaps[j]? = some l) (B : Option Addr) (c : Nat) (hc : l.length ≤ c) (hl : Kd.F (Kd.int .i64) wr (fun k => (Value.slice (some ⟨g, 0, none⟩) n cap).ownBlock ≠ some k ∧ k ≠ Y ∧ B0 ≤ k) B l.length l) :
    Cp w0 (wr.setCell ⟨g, j, none⟩ (.slice B l.length c)) X Y B0 cs v3 v4 (.slice (some ⟨g, 0, none⟩) n cap) refs stack snaps (zs.set j (B, l.length, c)) (j + 1) := by
  have k : Mod (· = g) wr (wr.setCell ⟨g, j, none⟩ (.slice B l.length c)) := (Mod.refl (· = g) wr).set ⟨g, j, none⟩ _ (.inl rfl)
  have hg : B0 ≤ g := Kd.R_base h.r5 g rfl
  obtain ⟨cells, hgc⟩ := Kd.R_typed h.r5 g rfl
  have hz : j < zs.length := by
    obtain ⟨_, _, e, _⟩ := h.ls j l hj
    exact (List.getElem?_eq_some_iff.1 e).1
  have hF : ∀ {P : Option Addr} {q : List Int} {ok : Nat → Prop}, (∀ i, ok i → (Value.slice (some ⟨g, 0, none⟩) n cap).ownBlock ≠ some i) → Kd.F (Kd.int .i64) wr ok P q.length q → Kd.F (Kd.int .i64) (wr.setCell ⟨g, j, none⟩ (.slice B l.length c)) ok P q.length q := fun ho z => Kd.F_step z (fun i hi hlt => k.block i hlt (fun e => ho i hi (by rw [e]; rfl)))
  refine ⟨k.blk h.bx (by omega), k.blk h.bY (by omega), h.bel.trans (k.below h.bel.size (fun i hi (e : i = g) => by omega)), row_on rfl h.r3 k (fun b hb (e : b = g) => ?_), row_on rfl h.r4 k (fun b hb (e : b = g) => ?_), Kd.R_putn h.r5 (j : Int) (B, l.length, c), fun i q hi => ?_⟩
  · obtain ⟨c2, h2⟩ := Kd.R_typed h.r3 b hb
    rw [e, hgc] at h2
    simp at h2
  · obtain ⟨c2, h2⟩ := Kd.R_typed h.r4 b hb
    rw [e, hgc] at h2
    simp at h2
  · by_cases e : j = i
    · subst e
      rw [hj] at hi
      cases hi
      exact ⟨B, c, by rw [List.getElem?_set, if_pos rfl, if_pos hz], hc, Kd.F_mono (hF (fun i q => q.1) hl) (fun i q => ⟨q.1, q.2.1, fun _ => q.2.2⟩)⟩
    · obtain ⟨B2, c2, e1, e2, e3⟩ := h.ls i q hi
      exact ⟨B2, c2, by rw [List.getElem?_set, if_neg e]; exact e1, e2, Kd.F_mono (hF (fun i q => q.1) e3) (fun a q => ⟨q.1, q.2.1, fun hlt => q.2.2 (by omega)⟩)⟩
theorem exec_nilsh {ρ : Operand → Value} {oo : Oper} {p q : Operand} {W : World} {A : Option Addr} {n c : Nat} (ho : oo.op = .binOp .eql 41 p q 41) (hx : ρ p = .slice A n c) (hy : ρ q = .slice none 0 0) : (execOp ρ oo).run Tryz.prog W = .ok (.value (.bool A.isNone)) W := by
  have h := Go.Lib.run_eql_slice_nil W 41 40 A n c 0 0 Tryz.underlying41
  have hg : (eqGuard .eql 41 p q (.slice A n c) (.slice none 0 0)).run Tryz.prog W = .ok () W := by kernel_rfl
  unfold execOp
  simp only [ho, hx, hy, hg, h, Sem.run_bind, Sem.run_pure, Result.andThen_ok]
theorem lit0_h {ρ : Operand → Value} {oo : Oper} (W : World) (ho : oo.op = .buildSlice 41 0 #[]) : (execOp ρ oo).run Tryz.prog W = .ok (.value (.slice (some ⟨W.heap.size, 0, none⟩) 0 0)) (W.alloc (.cells #[] 40)) := by
  unfold execOp; simp only [ho]; kernel_rfl
set_option maxHeartbeats 2000000 in
set_option maxRecDepth 100000 in
theorem clone_hR (A : Option Addr) (n c : Nat) (l : List Hdr) (w : World) (h : Hid (Kd.C hk w A n l)) (hl : n ≤ 1000000) :
    Calls Tryz.prog 71 #[.slice A n c] w fun e w' => ∃ v, e = .returned v ∧ Kd.R hk 40 w' w.heap.size (fun _ => True) v l ∧ Below w.heap.size w w' := by
  have hn : l.length = n := h.out.1
  cases A with
  | none =>
    have h0 : l = [] := by
      cases l with
      | nil => rfl
      | cons x l =>
        have z := h.out.2.2 (by rw [← hn]; simp)
        obtain ⟨ad, e, _⟩ := z
        cases e
    subst h0
    clear hn hl
    go_enter Tryz.func71, Tryz.ntmps71
    go_wp2_with (first | (refine Kd.event_run rfl (exec_nilsh rfl rfl rfl) ?_))
    go_ret
    exact ⟨_, rfl, Kd.R_nil _ _ _ _ _, Below.refl _ _⟩
  | some ad =>
    have HN := Lib.hid hn
    clear hn
    go_enter Tryz.func71, Tryz.ntmps71
    go_wp2_with (first
      | (refine Kd.event_run rfl (exec_nilsh rfl rfl rfl) ?_)
      | ((with_reducible refine gate_dst (N := 5) rfl ?_)
         refine Kd.R_lit hk (w0 := w) w.heap.size 40 rfl (N := 5) rfl (xs := ([] : List Hdr)) (inner := []) (ok := fun _ => True) (okp := fun _ => True) (lit0_h w rfl) (Reps.none _ _) (fun _ h => h) trivial (Below.refl _ _) (Nat.le_refl _) (by simp) ?_
         intro v1 w1 ho hb hg1 hn1
         have HO1 := Lib.hid ho
         have HB1 := Lib.hid hb
         clear ho hb hg1 hn1)
      | (at_builtin
         refine Kd.R_append_rows hk (w0 := w) w.heap.size rfl (.tmp 5) (.tmp 6) 41 40 (.slice none 0 0) 24 rfl Tryz.underlying41 infoLs rfl (by decide) (by decide) v1 [] l _ _ _ (fun _ => True) (fun _ => False) rfl rfl HO1.out (Kd.C_below h.out HB1.out) (fun _ _ h => h) (fun _ h => h.elim) (fun _ _ => trivial) HB1.out HB1.out.size (show (0 + n) * 24 ≤ 140737488355328 by omega) ?_
         intro v2 w2 ho hb hg2 hn2
         rw [List.nil_append] at ho
         have HO2 := Lib.hid ho
         have HB2 := Lib.hid hb
         clear ho hb hg2 hn2))
    go_ret
    exact ⟨_, rfl, HO2.out, HB2.out⟩
set_option maxHeartbeats 4000000 in
set_option maxRecDepth 100000 in
theorem copied_a (o : Mni.Loc) (refs : List Rf) (stack : List Int) (upper : Int) (snaps : List (List Int)) (w : World) (h : Hid (At w o ⟨refs, stack, upper, snaps⟩)) (hrl : refs.length ≤ 1000000) (hsl : stack.length ≤ 1000000) (hnl : snaps.length ≤ 1000000) (hlls : ∀ l ∈ snaps, l.length ≤ 1000000) :
    Calls Tryz.prog 42 #[.agg (Loc.a o ⟨refs, stack, upper, snaps⟩)] w fun e w' => ∃ o', e = .returned (.agg (Loc.a o' ⟨refs, stack, upper, snaps⟩)) ∧ OwnM w.heap.size w' o' ⟨refs, stack, upper, snaps⟩ ∧ Below w.heap.size w w' := by
  obtain ⟨nr, hnr⟩ : ∃ nr, refs.length = nr := ⟨_, rfl⟩
  obtain ⟨ns, hns⟩ : ∃ ns, stack.length = ns := ⟨_, rfl⟩
  obtain ⟨nl, hnl2⟩ : ∃ nl, snaps.length = nl := ⟨_, rfl⟩
  obtain ⟨ys, hys, hyl⟩ := heads_of h.out.n
  rw [hnl2] at hys
  have HYl := Lib.hid hyl
  have HNl := Lib.hid (And.intro hys.1 hnl2)
  have HLs := Lib.hid hlls
  have hl : nl ≤ 1000000 := by omega
  have HNr := Lib.hid hnr
  have HNs := Lib.hid hns
  have hr : nr ≤ 1000000 := by omega
  have hs : ns ≤ 1000000 := by omega
  have ea : Loc.a o ⟨refs, stack, upper, snaps⟩ = #[.slice o.p0 nr o.c0, .slice o.p1 ns o.c1, .int .i64 upper, .slice o.p3 nl o.c3] := by
    rw [← hnr, ← hns, ← hnl2]; rfl
  have hh : Hid (At w o ⟨refs, stack, upper, snaps⟩ ∧ Kd.C rk w o.p0 nr refs ∧ Kd.C (Kd.int .i64) w o.p1 ns stack ∧ Kd.C hk w o.p3 nl ys) := Lib.hid ⟨h.out, by rw [← hnr]; exact h.out.r, by rw [← hns]; exact h.out.s, hys⟩
  rw [ea]
  clear hnr hns hnl2 hys hyl ea h hrl hsl hnl hlls
  go_enter Tryz.func42, Tryz.ntmps42
  go_upto_region 1 with (first | (refine wl_allocM rfl rfl ?_))
  have hb1 : Below w.heap.size w (w.alloc (Obj.cells #[.slice o.p0 nr o.c0, .slice o.p1 ns o.c1, .int .i64 upper, .slice o.p3 nl o.c3] 43 (0, 0))) := (Below.refl _ _).alloc (Nat.le_refl _) _
  have hX1 := heap_alloc_last w (Obj.cells #[.slice o.p0 nr o.c0, .slice o.p1 ns o.c1, .int .i64 upper, .slice o.p3 nl o.c3] 43 (0, 0))
  obtain ⟨X, hX⟩ : ∃ X, w.heap.size = X := ⟨_, rfl⟩
  have hs1 : (w.alloc (Obj.cells #[.slice o.p0 nr o.c0, .slice o.p1 ns o.c1, .int .i64 upper, .slice o.p3 nl o.c3] 43 (0, 0))).heap.size = X + 1 := (alloc_size _ _).trans (by rw [hX])
  rw [hX] at hX1
  try simp only [hX]
  try rw [hs1]
  generalize (w.alloc (Obj.cells #[.slice o.p0 nr o.c0, .slice o.p1 ns o.c1, .int .i64 upper, .slice o.p3 nl o.c3] 43 (0, 0))) = w1 at *
  have hd2 : Below w1.heap.size w1 (w1.alloc (Obj.cells #[.slice none 0 0, .slice none 0 0, .int .i64 0, .slice none 0 0] 43 (0, 0))) := (Below.refl _ _).alloc (Nat.le_refl _) _
  have HX2 := blk_to (Lib.hid hX1) hd2
  have HB2 := below_to (Lib.hid hb1) (Nat.le_refl _) hd2
  have hY2 := heap_alloc_last w1 (Obj.cells #[.slice none 0 0, .slice none 0 0, .int .i64 0, .slice none 0 0] 43 (0, 0))
  have hs2 : (w1.alloc (Obj.cells #[.slice none 0 0, .slice none 0 0, .int .i64 0, .slice none 0 0] 43 (0, 0))).heap.size = X + 1 + 1 := (alloc_size _ _).trans (by rw [hs1])
  rw [hs1] at hY2
  have HY2 := Lib.hid hY2
  generalize (w1.alloc (Obj.cells #[.slice none 0 0, .slice none 0 0, .int .i64 0, .slice none 0 0] 43 (0, 0))) = w2 at *
  obtain ⟨Y, hY⟩ : ∃ Y, X + 1 = Y := ⟨_, rfl⟩
  rw [hY] at HY2
  try simp only [hY]
  have HYX := Lib.hid (show Y ≠ X by omega)
  have HYw := Lib.hid (show w.heap.size ≤ Y ∧ Y < w2.heap.size by omega)
  have HXw := Lib.hid (show w.heap.size ≤ X ∧ X < w2.heap.size by omega)
  clear hb1 hX hX1 hs1 hs2 hd2 hY2 hY
  have h := Lib.hid hh.out.1
  have hdd : Below w2.heap.size w2 (World.drew w2) := (Below.refl _ _).drew
  have HXd := blk_to HX2 hdd
  have HYd := blk_to HY2 hdd
  have HBd := below_to HB2 (Nat.le_refl _) hdd
  have HZd := Lib.hid hdd
  clear hdd HX2 HY2 HB2
  refine start_ (n := 15) (S := fun w' => w'.cell? ⟨X, 0, none⟩ = some (.slice o.p0 nr o.c0) ∧ w'.cell? ⟨X, 1, none⟩ = some (.slice o.p1 ns o.c1) ∧ w'.cell? ⟨X, 3, none⟩ = some (.slice o.p3 nl o.c3)) (ds := [10, 12, 14]) #[false, false, false, false, false, false, false, false, false, false, false, false, false, false, false] (by kernel_rfl) rfl rfl ⟨(Err.cell_of_blk HXd.out 0), (Err.cell_of_blk HXd.out 1), (Err.cell_of_blk HXd.out 3)⟩ (fun hHeld => ?_)
  refine pure_ (i := 0) (N := some 5) (v := ?_) (a' := ?_) #[true, false, false, false, false, false, false, false, false, false, false, false, false, false, false] rfl rfl (by kernel_rfl) (fun _ _ _ h => h) (Or.inl ⟨by rfl, ?_⟩) ?_ ?_
  rotate_left
  · intro w'
    go_simp
    with_reducible rfl
  rotate_left
  · simp only [Act.put, List.setIfInBounds_toArray, List.set_cons_zero, List.set_cons_succ, i64_w, i32_w]
    rfl
  refine pure_ (i := 3) (N := some 8) (v := ?_) (a' := ?_) #[true, false, false, true, false, false, false, false, false, false, false, false, false, false, false] rfl rfl (by kernel_rfl) (fun _ _ _ h => h) (Or.inl ⟨by rfl, ?_⟩) ?_ ?_
  rotate_left
  · intro w'
    go_simp
    with_reducible rfl
  rotate_left
  · simp only [Act.put, List.setIfInBounds_toArray, List.set_cons_zero, List.set_cons_succ, i64_w, i32_w]
    rfl
  refine pure_ (i := 6) (N := some 11) (v := ?_) (a' := ?_) #[true, false, false, true, false, false, true, false, false, false, false, false, false, false, false] rfl rfl (by kernel_rfl) (fun _ _ _ h => h) (Or.inl ⟨by rfl, ?_⟩) ?_ ?_
  rotate_left
  · intro w'
    go_simp
    with_reducible rfl
  rotate_left
  · simp only [Act.put, List.setIfInBounds_toArray, List.set_cons_zero, List.set_cons_succ, i64_w, i32_w]
    rfl
  refine take_ (i := 1) (N := some 6) (v := ?_) (a' := ?_) #[true, true, false, true, false, false, true, false, false, false, false, false, false, false, false] rfl rfl (by kernel_rfl) (fun _ _ _ h => h) (Or.inl ⟨by rfl, ?_⟩) hHeld ?_ ?_
  rotate_left
  · rintro w' ⟨s0, s1, s2⟩
    go_simp
    with_reducible rfl
  rotate_left
  · simp only [Act.put, List.setIfInBounds_toArray, List.set_cons_zero, List.set_cons_succ, i64_w, i32_w]
    rfl
  refine take_ (i := 4) (N := some 9) (v := ?_) (a' := ?_) #[true, true, false, true, true, false, true, false, false, false, false, false, false, false, false] rfl rfl (by kernel_rfl) (fun _ _ _ h => h) (Or.inl ⟨by rfl, ?_⟩) hHeld ?_ ?_
  rotate_left
  · rintro w' ⟨s0, s1, s2⟩
    go_simp
    with_reducible rfl
  rotate_left
  · simp only [Act.put, List.setIfInBounds_toArray, List.set_cons_zero, List.set_cons_succ, i64_w, i32_w]
    rfl
  refine take_ (i := 7) (N := some 12) (v := ?_) (a' := ?_) #[true, true, false, true, true, false, true, true, false, false, false, false, false, false, false] rfl rfl (by kernel_rfl) (fun _ _ _ h => h) (Or.inl ⟨by rfl, ?_⟩) hHeld ?_ ?_
  rotate_left
  · rintro w' ⟨s0, s1, s2⟩
    go_simp
    with_reducible rfl
  rotate_left
  · simp only [Act.put, List.setIfInBounds_toArray, List.set_cons_zero, List.set_cons_succ, i64_w, i32_w]
    rfl
  refine one_ (i := 2) (N := some 7) #[true, true, true, true, true, false, true, true, false, false, false, false, false, false, false] rfl rfl (by kernel_rfl) (by decide) (fun K hK => ?_)
  refine goes_ Tryz.func69 (by kernel_rfl) rfl #[.slice o.p0 nr o.c0] (by rfl) rfl rfl (by simp only [List.map_toArray, List.map_cons, List.map_nil]; rfl) ?_
  with_reducible refine (clone_rR o.p0 nr o.c0 refs _ (Lib.hid (C_to hh.out.2.1 HBd.out)) hr).mono ?_
  rintro e w3 ⟨v3, rfl, hv, hd⟩
  refine ⟨_, rfl, ?_⟩
  obtain ⟨A3, c3, e3⟩ := Kd.R_slice hv
  rw [HNr.out] at e3
  obtain rfl : v3 = .slice A3 nr c3 := e3
  have HV3 := Lib.hid (Kd.R_lower hv (show w2.heap.size ≤ _ from HZd.out.size))
  have HB3 := below_to HBd (Nat.le_refl _) hd
  have HZ3 := below_to HZd (Nat.le_refl _) hd
  have HX3 := blk_to HXd hd
  have HY3 := blk_to HYd hd
  clear hv hd
  refine hK.out _ _ ⟨(Err.cell_of_blk HX3.out 0), (Err.cell_of_blk HX3.out 1), (Err.cell_of_blk HX3.out 3)⟩ (fun hHeld => ?_)
  clear hK K
  refine norm_ (a' := ?_) ?_ ?_
  rotate_left
  · show Act.put _ (some 7) _ = _
    simp only [Act.put, List.setIfInBounds_toArray, List.set_cons_zero, List.set_cons_succ, i64_w, i32_w]
    rfl
  refine pure_ (i := 9) (N := some 14) (v := ?_) (a' := ?_) #[true, true, true, true, true, false, true, true, false, true, false, false, false, false, false] rfl rfl (by kernel_rfl) (fun _ _ _ h => h) (Or.inl ⟨by rfl, ?_⟩) ?_ ?_
  rotate_left
  · intro w'
    go_simp
    with_reducible rfl
  rotate_left
  · simp only [Act.put, List.setIfInBounds_toArray, List.set_cons_zero, List.set_cons_succ, i64_w, i32_w]
    rfl
  refine one_ (i := 5) (N := some 10) #[true, true, true, true, true, true, true, true, false, true, false, false, false, false, false] rfl rfl (by kernel_rfl) (by decide) (fun K hK => ?_)
  refine goes_ Tryz.func70 (by kernel_rfl) rfl #[.slice o.p1 ns o.c1] (by rfl) rfl rfl (by simp only [List.map_toArray, List.map_cons, List.map_nil]; rfl) ?_
  with_reducible refine (clone_iR o.p1 ns o.c1 stack _ (Lib.hid (C_to hh.out.2.2.1 HB3.out)) hs).mono ?_
  rintro e w4 ⟨v4, rfl, hv, hd⟩
  refine ⟨_, rfl, ?_⟩
  obtain ⟨A4, c4, e4⟩ := Kd.R_slice hv
  rw [HNs.out] at e4
  obtain rfl : v4 = .slice A4 ns c4 := e4
  have HV4 := Lib.hid (Kd.R_lower hv (show w2.heap.size ≤ _ from HZ3.out.size))
  have HB4 := below_to HB3 (Nat.le_refl _) hd
  have HZ4 := below_to HZ3 (Nat.le_refl _) hd
  have HX4 := blk_to HX3 hd
  have HY4 := blk_to HY3 hd
  have HV3b := Lib.hid (Kd.R_below HV3.out hd)
  clear hv hd
  refine hK.out _ _ ⟨(Err.cell_of_blk HX4.out 0), (Err.cell_of_blk HX4.out 1), (Err.cell_of_blk HX4.out 3)⟩ (fun hHeld => ?_)
  clear hK K
  refine norm_ (a' := ?_) ?_ ?_
  rotate_left
  · show Act.put _ (some 10) _ = _
    simp only [Act.put, List.setIfInBounds_toArray, List.set_cons_zero, List.set_cons_succ, i64_w, i32_w]
    rfl
  refine one_ (i := 8) (N := some 13) #[true, true, true, true, true, true, true, true, true, true, false, false, false, false, false] rfl rfl (by kernel_rfl) (by decide) (fun K hK => ?_)
  refine goes_ Tryz.func71 (by kernel_rfl) rfl #[.slice o.p3 nl o.c3] (by rfl) rfl rfl (by simp only [List.map_toArray, List.map_cons, List.map_nil]; rfl) ?_
  with_reducible refine (clone_hR o.p3 nl o.c3 ys _ (Lib.hid (C_to hh.out.2.2.2 HB4.out)) hl).mono ?_
  rintro e w5 ⟨v5, rfl, hv, hd⟩
  refine ⟨_, rfl, ?_⟩
  obtain ⟨A5, c5, e5⟩ := Kd.R_slice hv
  rw [HNl.out.1] at e5
  obtain rfl : v5 = .slice A5 nl c5 := e5
  have HB5b := Lib.hid (Kd.R_base hv)
  have HV5 := Lib.hid (Kd.R_lower hv (show w2.heap.size ≤ _ from HZ4.out.size))
  have HB5 := below_to HB4 (Nat.le_refl _) hd
  have HZ5 := below_to HZ4 (Nat.le_refl _) hd
  have HX5 := blk_to HX4 hd
  have HY5 := blk_to HY4 hd
  have HV3c := Lib.hid (Kd.R_below HV3b.out hd)
  have HV4b := Lib.hid (Kd.R_below HV4.out hd)
  clear hv hd
  have c0 := Err.cell_of_blk HX5.out 0
  have c1 := Err.cell_of_blk HX5.out 1
  have c3_ := Err.cell_of_blk HX5.out 3
  have f0 : w5.frozen? ⟨X, 0, none⟩ = false := by simp [World.frozen?, HX5.out]
  have f1 : w5.frozen? ⟨X, 1, none⟩ = false := by simp [World.frozen?, HX5.out]
  have f3 : w5.frozen? ⟨X, 3, none⟩ = false := by simp [World.frozen?, HX5.out]
  refine hK.out _ _ ⟨(Err.cell_of_blk HX5.out 0), (Err.cell_of_blk HX5.out 1), (Err.cell_of_blk HX5.out 3)⟩ (fun hHeld => ?_)
  clear hK K
  refine norm_ (a' := ?_) ?_ ?_
  rotate_left
  · show Act.put _ (some 13) _ = _
    simp only [Act.put, List.setIfInBounds_toArray, List.set_cons_zero, List.set_cons_succ, i64_w, i32_w]
    rfl
  refine last_ (i := 10) (N := none) #[true, true, true, true, true, true, true, true, true, true, true, false, false, false, false] rfl rfl (by kernel_rfl) (by decide) (fun K hK => ?_)
  refine skip_ (w1 := ?_) (by rfl) rfl ?_ ?_
  rotate_left
  · go_simp
    rfl
  refine hK.out _ _ ?_
  clear hK K
  refine pure_ (i := 11) (N := some 15) (v := ?_) (a' := ?_) #[true, true, true, true, true, true, true, true, true, true, true, true, false, false, false] rfl rfl (by kernel_rfl) (fun _ _ _ h => h) (Or.inl ⟨by rfl, ?_⟩) ?_ ?_
  rotate_left
  · intro w'
    go_simp
    with_reducible rfl
  rotate_left
  · simp only [Act.put, List.setIfInBounds_toArray, List.set_cons_zero, List.set_cons_succ, i64_w, i32_w]
    rfl
  refine last_ (i := 12) (N := none) #[true, true, true, true, true, true, true, true, true, true, true, true, true, false, false] rfl rfl (by kernel_rfl) (by decide) (fun K hK => ?_)
  refine skip_ (w1 := ?_) (by rfl) rfl ?_ ?_
  rotate_left
  · go_simp
    rfl
  refine hK.out _ _ ?_
  clear hK K
  refine pure_ (i := 13) (N := some 16) (v := ?_) (a' := ?_) #[true, true, true, true, true, true, true, true, true, true, true, true, true, true, false] rfl rfl (by kernel_rfl) (fun _ _ _ h => h) (Or.inl ⟨by rfl, ?_⟩) ?_ ?_
  rotate_left
  · intro w'
    go_simp
    with_reducible rfl
  rotate_left
  · simp only [Act.put, List.setIfInBounds_toArray, List.set_cons_zero, List.set_cons_succ, i64_w, i32_w]
    rfl
  refine last_ (i := 14) (N := none) #[true, true, true, true, true, true, true, true, true, true, true, true, true, true, true] rfl rfl (by kernel_rfl) (by decide) (fun K hK => ?_)
  refine skip_ (w1 := ?_) (by rfl) rfl ?_ ?_
  rotate_left
  · go_simp
    rfl
  refine hK.out _ _ ?_
  clear hK K
  refine done_ (by kernel_rfl) ?_
  clear hHeld HXd HYd HBd HX3 HY3 HB3 HX4 HY4 HB4 HZd HZ3 HV3 HV3b HV4 c0 c1 c3_ f0 f1 f3
  have k0 : Mod (· = X) w5 (((w5.setCell ⟨X, 0, none⟩ (.slice A3 nr c3)).setCell ⟨X, 1, none⟩ (.slice A4 ns c4)).setCell ⟨X, 3, none⟩ (.slice A5 nl c5)) := (((Mod.refl (· = X) w5).set _ _ (.inl rfl)).set _ _ (.inl rfl)).set _ _ (.inl rfl)
  have hne : ∀ {b : Nat}, w2.heap.size ≤ b → ¬ b = X := fun {b} hb e => by have := HXw.out; omega
  have HBw := Lib.hid (show w.heap.size ≤ w2.heap.size ∧ True from ⟨by have := HXw.out; omega, trivial⟩)
  have HC6 := Lib.hid (show Cp w (((w5.setCell ⟨X, 0, none⟩ (.slice A3 nr c3)).setCell ⟨X, 1, none⟩ (.slice A4 ns c4)).setCell ⟨X, 3, none⟩ (.slice A5 nl c5)) X Y w2.heap.size #[.slice A3 nr c3, .slice A4 ns c4, .int .i64 upper, .slice A5 nl c5] (.slice A3 nr c3) (.slice A4 ns c4) (.slice A5 nl c5) refs stack snaps ys 0 from
    ⟨Blb.set1 (Blb.set1 (Blb.set1 HX5.out 0 _) 1 _) 3 _, k0.blk HY5.out HYX.out, HB5.out.trans (k0.below HB5.out.size (fun i hi (e : i = X) => by have := HXw.out; omega)),
      row_on rfl HV3c.out k0 (fun b hb => hne (Kd.R_base HV3c.out b hb)), row_on rfl HV4b.out k0 (fun b hb => hne (Kd.R_base HV4b.out b hb)), row_on rfl HV5.out k0 (fun b hb => hne (Kd.R_base HV5.out b hb)), fun j l hj => by
        obtain ⟨B, c, e1, e2, e3⟩ := HYl.out j l hj
        exact ⟨B, c, e1, e2, fun W' hW' => e3 W' (fun k _ hlt => (hW' k ⟨fun e => by
          have h1 := HB5b.out k e
          have h2 := HZ4.out.size
          have h3 := HXw.out
          omega, by have := HYw.out; omega, fun q => absurd q (Nat.not_lt_zero _)⟩ (Nat.lt_of_lt_of_le hlt (Nat.le_trans HB5.out.size k0.size))).trans ((k0.block k (Nat.lt_of_lt_of_le hlt HB5.out.size) (fun e => by have := HXw.out; omega)).trans (HB5.out.block k hlt)))⟩⟩)
  generalize (((w5.setCell ⟨X, 0, none⟩ (.slice A3 nr c3)).setCell ⟨X, 1, none⟩ (.slice A4 ns c4)).setCell ⟨X, 3, none⟩ (.slice A5 nl c5)) = w6 at *
  clear k0 HX5 HY5 HB5 HB5b HZ4 HV3c HV4b HV5 hne HYl
  have c3_ := Err.cell_of_blk HC6.out.bx 3
  have ea : (#[.slice A3 nr c3, .slice A4 ns c4, .int .i64 upper, .slice A5 nl c5] : Array Value) = Loc.a ⟨A3, c3, A4, c4, A5, c5⟩ ⟨refs, stack, upper, snaps⟩ := by
    rw [← HNr.out, ← HNs.out, ← HNl.out.2]; rfl
  have HEa := Lib.hid ea
  clear ea hh
  have HZl := HNl.out.1
  go_wp2_with fail
  clear c3_
  go_loopg [20] nl (fun kq v20 wr => ∃ (j : Nat) (zs : List Hdr), v20 = .int .i64 (j : Int) ∧ kq + j = nl ∧ zs.length = nl ∧ Hid (Cp w wr X Y w2.heap.size #[.slice A3 nr c3, .slice A4 ns c4, .int .i64 upper, .slice A5 nl c5] (.slice A3 nr c3) (.slice A4 ns c4) (.slice A5 nl c5) refs stack snaps zs j))
  case atStart => exact ⟨0, ys, rfl, rfl, HZl, HC6⟩
  case round =>
    clear HC6 HZl
    obtain ⟨j, zs, rfl, hk, hzl, HC7⟩ := hrel
    cases gk with
    | zero =>
      have hj : j = nl := by omega
      have c1 : decide ((j : Int) < (nl : Int)) = false := decide_eq_false (by omega)
      have c1b : decide (j < nl) = false := decide_eq_false (by omega)
      have HJ := Lib.hid hj
      clear hk hj
      have HX7r := Lib.hid (show wr.heap[X]? = some (Obj.cells (Loc.a ⟨A3, c3, A4, c4, A5, c5⟩ ⟨refs, stack, upper, snaps⟩) 43 (0, 0)) by rw [← HEa.out]; exact HC7.out.bx)
      go_wp2_with (first | (refine wl_loadM X ⟨A3, c3, A4, c4, A5, c5⟩ ⟨refs, stack, upper, snaps⟩ HX7r.out rfl _ rfl rfl ?_) | (refine wl_storeM Y #[.slice none 0 0, .slice none 0 0, .int .i64 0, .slice none 0 0] rfl ⟨A3, c3, A4, c4, A5, c5⟩ ⟨refs, stack, upper, snaps⟩ HC7.out.bY rfl _ _ rfl rfl rfl ?_))
      (try simp only [Exit.inBlock, Exit.then])
      refine bodyPost_ret (v := .agg (Loc.a ⟨A3, c3, A4, c4, A5, c5⟩ ⟨refs, stack, upper, snaps⟩)) ?_ rfl ?_
      · exact copied_results _ _ Y _ rfl rfl (setRow_heap _ Y _ _ _ _ HC7.out.bY)
      have k7 := mod_row wr Y (Loc.a ⟨A3, c3, A4, c4, A5, c5⟩ ⟨refs, stack, upper, snaps⟩)
      have hne : ∀ {b : Nat}, w2.heap.size ≤ b → ¬ b = Y := fun {b} hb e => by have := HYw.out; omega
      refine ⟨⟨A3, c3, A4, c4, A5, c5⟩, rfl, ?_, HC7.out.bel.trans (k7.below HC7.out.bel.size (fun i hi (e : i = Y) => by have := HYw.out; omega))⟩
      have hz3 := row_on rfl HC7.out.r3 k7 (fun b hb => hne (Kd.R_base HC7.out.r3 b hb))
      have hz4 := row_on rfl HC7.out.r4 k7 (fun b hb => hne (Kd.R_base HC7.out.r4 b hb))
      have g3 := Kd.R_reads' hz3
      have g4 := Kd.R_reads' hz4
      have g5 := Kd.R_reads' HC7.out.r5
      have hF5 := Kd.F_step (own_F rfl HC7.out.r5) (W1 := wr.setRow Y (Loc.a ⟨A3, c3, A4, c4, A5, c5⟩ ⟨refs, stack, upper, snaps⟩)) (fun k hk hlt => k7.block k hlt (hne hk))
      have hw : ∀ k, w2.heap.size ≤ k → w.heap.size ≤ k := fun k q => Nat.le_trans HBw.out.1 q
      refine ⟨?_, ?_, ?_, by rw [← g3.1]; exact g3.2.1, by rw [← g4.1]; exact g4.2.1, by show snaps.length ≤ c5; rw [HNl.out.2]; exact g5.2.1⟩
      · have z := Kd.F_mono (own_F rfl hz3) hw
        rw [← HNr.out] at z
        exact z
      · have z := Kd.F_mono (own_F rfl hz4) hw
        rw [← HNs.out] at z
        exact z
      · show Kd.F lk _ _ A5 snaps.length snaps
        rw [HNl.out.2]
        intro W' hW'
        refine of_heads (v := fun _ _ => True) (hF5 W' (fun k hk hlt => hW' k (hw k hk) hlt)) HNl.out.2 (fun i l hi => ?_)
        obtain ⟨B, c, e1, e2, e3⟩ := HC7.out.ls i l hi
        have hin : i < nl := by rw [← HNl.out.2]; exact (List.getElem?_eq_some_iff.1 hi).1
        refine ⟨B, c, e1, e2, foot_int (e3 W' (fun k hk hlt => (hW' k (hw k (hk.2.2 (by rw [HJ.out]; exact hin))) (Nat.lt_of_lt_of_le hlt k7.size)).trans (k7.block k hlt hk.2.1)))⟩
    | succ k1 =>
      have hj : j < nl := by omega
      have hjs : j < snaps.length := by rw [HNl.out.2]; exact hj
      obtain ⟨l, hl8⟩ : ∃ l, snaps[j] = l := ⟨_, rfl⟩
      have hsl : snaps[j]? = some l := by rw [List.getElem?_eq_getElem hjs, hl8]
      obtain ⟨B, cb, hz, hcb, hFl⟩ := HC7.out.ls j l hsl
      obtain ⟨ll, hLl⟩ : ∃ ll, l.length = ll := ⟨_, rfl⟩
      rw [hLl] at hz hFl hcb
      have hll : ll ≤ 1000000 := by rw [← hLl, ← hl8]; exact HLs.out _ (List.getElem_mem hjs)
      have HLl := Lib.hid hLl
      have HSl := Lib.hid hsl
      have HFl := Lib.hid hFl
      obtain ⟨g, cap, eg, hgB, _, cells, hgc⟩ := Kd.R_form HC7.out.r5 (by omega)
      rw [hzl] at eg
      have e1 : A5 = some ⟨g, 0, none⟩ := by injection eg
      have e2 : c5 = cap := by injection eg
      subst e1 e2
      obtain ⟨hcl, _⟩ := Kd.R_celln (none, 0, 0) HC7.out.r5 (j : Int) (by omega) (by omega)
      have hrd : encH (rdOf (none, 0, 0) zs (j : Int)) = .slice B ll cb := by
        unfold rdOf
        rw [Int.toNat_natCast, List.getD_eq_getElem?_getD, hz]
        rfl
      rw [hrd, Int.toNat_natCast] at hcl
      have c1 : decide ((j : Int) < (nl : Int)) = true := decide_eq_true (by omega)
      have c1b : decide (j < nl) = true := decide_eq_true hj
      have p1 : (0 ≤ (j : Int)) = True := eq_true (by omega)
      have p2 : ((j : Int) < (nl : Int)) = True := eq_true (by omega)
      have q5 : IntKind.i64.wrap ((j : Int) + 1) = (j : Int) + 1 := IntWalk.i64_in _ (by omega)
      have Hgd := Lib.hid hgc
      clear eg hgc hrd hz hFl hLl hsl hl8
      go_upto_region 5 with fail
      clear hcl
      have HCd := Lib.hid (HC7.out.on (Below.refl _ _).drew)
      have HXd := Lib.hid HCd.out.bx
      refine start_ (n := 7) (S := fun w' => w'.cell? ⟨X, 3, none⟩ = some (.slice (some ⟨g, 0, none⟩) nl c5)) (ds := [6]) #[false, false, false, false, false, false, false] (by kernel_rfl) rfl rfl ((Err.cell_of_blk HXd.out 3)) (fun hHeld => ?_)
      refine pure_ (i := 0) (N := some 25) (v := ?_) (a' := ?_) #[true, false, false, false, false, false, false] rfl rfl (by kernel_rfl) (fun _ _ _ h => h) (Or.inl ⟨by rfl, ?_⟩) ?_ ?_
      rotate_left
      · intro w'
        go_simp
        with_reducible rfl
      rotate_left
      · simp only [Act.put, List.setIfInBounds_toArray, List.set_cons_zero, List.set_cons_succ, i64_w, i32_w]
        rfl
      refine pure_ (i := 2) (N := some 27) (v := ?_) (a' := ?_) #[true, false, true, false, false, false, false] rfl rfl (by kernel_rfl) (fun _ _ _ h => h) (Or.inl ⟨by rfl, ?_⟩) ?_ ?_
      rotate_left
      · intro w'
        go_simp
        with_reducible rfl
      rotate_left
      · simp only [Act.put, List.setIfInBounds_toArray, List.set_cons_zero, List.set_cons_succ, i64_w, i32_w]
        rfl
      refine pure_ (i := 3) (N := some 28) (v := ?_) (a' := ?_) #[true, false, true, true, false, false, false] rfl rfl (by kernel_rfl) (fun _ _ _ h => h) (Or.inl ⟨by rfl, ?_⟩) ?_ ?_
      rotate_left
      · intro w'
        go_simp
        with_reducible rfl
      rotate_left
      · simp only [Act.put, List.setIfInBounds_toArray, List.set_cons_zero, List.set_cons_succ, i64_w, i32_w]
        rfl
      refine take_ (i := 1) (N := some 26) (v := ?_) (a' := ?_) #[true, true, true, true, false, false, false] rfl rfl (by kernel_rfl) (fun _ _ _ h => h) (Or.inl ⟨by rfl, ?_⟩) hHeld ?_ ?_
      rotate_left
      · intro w' s0
        go_simp
        with_reducible rfl
      rotate_left
      · simp only [Act.put, List.setIfInBounds_toArray, List.set_cons_zero, List.set_cons_succ, i64_w, i32_w]
        rfl
      refine one_ (i := 4) (N := some 29) #[true, true, true, true, true, false, false] rfl rfl (by kernel_rfl) (by decide) (fun K hK => ?_)
      refine goes_ Tryz.func70 (by kernel_rfl) rfl #[.slice B ll cb] (by rfl) rfl rfl (by simp only [List.map_toArray, List.map_cons, List.map_nil]; rfl) ?_
      with_reducible refine (clone_iR B ll cb l _ (Lib.hid (C_to (Kd.F_now HFl.out) (Below.refl _ _).drew)) hll).mono ?_
      rintro e w8 ⟨v8, rfl, hv, hd⟩
      refine ⟨_, rfl, ?_⟩
      obtain ⟨A8, c8, e8⟩ := Kd.R_slice hv
      rw [HLl.out] at e8
      obtain rfl : v8 = .slice A8 ll c8 := e8
      have HC8 := Lib.hid (HCd.out.on hd)
      have HV8 := Lib.hid hv
      have HgW := Lib.hid (Err.lt_of_block Hgd.out)
      have HX8 := Lib.hid HC8.out.bx
      clear hd hv
      obtain ⟨hcl, hfz⟩ := Kd.R_celln (none, 0, 0) HC8.out.r5 (j : Int) (by omega) (by omega)
      rw [Int.toNat_natCast] at hcl hfz
      refine hK.out _ _ ((Err.cell_of_blk HX8.out 3)) (fun hHeld => ?_)
      clear hK K
      refine norm_ (a' := ?_) ?_ ?_
      rotate_left
      · show Act.put _ (some 29) _ = _
        simp only [Act.put, List.setIfInBounds_toArray, List.set_cons_zero, List.set_cons_succ, i64_w, i32_w]
        rfl
      refine pure_ (i := 5) (N := some 30) (v := ?_) (a' := ?_) #[true, true, true, true, true, true, false] rfl rfl (by kernel_rfl) (fun _ _ _ h => h) (Or.inl ⟨by rfl, ?_⟩) ?_ ?_
      rotate_left
      · intro w'
        go_simp
        with_reducible rfl
      rotate_left
      · simp only [Act.put, List.setIfInBounds_toArray, List.set_cons_zero, List.set_cons_succ, i64_w, i32_w]
        rfl
      refine last_ (i := 6) (N := none) #[true, true, true, true, true, true, true] rfl rfl (by kernel_rfl) (by decide) (fun K hK => ?_)
      refine skip_ (w1 := ?_) (by rfl) rfl ?_ ?_
      rotate_left
      · go_simp
        rfl
      refine hK.out _ _ ?_
      clear hK K
      refine done_ (by kernel_rfl) ?_
      clear hHeld
      have HFb := Lib.hid (show Kd.F (Kd.int .i64) w8 (fun k => (Value.slice (some ⟨g, 0, none⟩) nl c5).ownBlock ≠ some k ∧ k ≠ Y ∧ w2.heap.size ≤ k) A8 l.length l by
        have z := Kd.R_F (Kd.R_mono (Kd.R_tight rfl HV8.out) (ok' := fun k => (Value.slice (some ⟨g, 0, none⟩) nl c5).ownBlock ≠ some k ∧ k ≠ Y ∧ w2.heap.size ≤ k) (fun k hk => by
          have h1 := Kd.R_base HV8.out k hk.symm
          have h2 := Kd.R_lt HCd.out.r5 g rfl
          have h3 := Err.lt_of_block HCd.out.bY
          have h4 := Kd.R_base HCd.out.r5 g rfl
          exact ⟨fun e => by have e' : some g = some k := e; injection e' with e'; omega, by omega, by omega⟩))
        rw [HLl.out]
        exact z)
      have HC9 := HC8.out.put HBw.out.1 HXw.out.2 HYw.out.2 l HSl.out A8 c8 (by rw [HLl.out]; exact (Kd.R_reads' HV8.out).2.1) HFb.out
      rw [HLl.out] at HC9
      have HC9 := Lib.hid HC9
      generalize (w8.setCell ⟨g, j, none⟩ (.slice A8 ll c8)) = w9 at *
      clear HC8 HV8 HX8 HXd HCd HC7 HFl HFb hcl hfz
      go_wp2_with fail
      go_roundg k1
      case measure => exact Nat.lt_succ_self _
      case rel => exact ⟨j + 1, zs.set j (A8, ll, c8), by simp, by omega, by rw [List.length_set]; exact hzl, HC9⟩
set_option maxHeartbeats 2000000 in
set_option maxRecDepth 100000 in
theorem Manifest_a (Z R M H : Nat) (v p : Value) (o : Mni.Loc) (m : Man) (s : St) (w : World) (h : Hid (IsS w ⟨Z, R, M, H, v, p⟩ o m s)) (hs : m.snaps.length ≤ 1000000) (hss : ∀ l ∈ m.snaps, l.length ≤ 1000000) (hr : m.refs.length ≤ 1000000) (hk : m.stack.length ≤ 1000000) :
    Calls Tryz.prog 17 #[.pointer (some ⟨Z, 0, none⟩)] w fun e w' => ∃ o', e = .returned (.agg (Loc.a o' m)) ∧ At w' o' m ∧ Below w.heap.size w w' := by
  go_enter Tryz.func17, Tryz.ntmps17
  go_upto_region 1 with (first | (refine wl_allocM rfl rfl ?_))
  have hd1 : Below w.heap.size w (w.alloc (Obj.cells #[.slice none 0 0, .slice none 0 0, .int .i64 0, .slice none 0 0] 43 (0, 0))) := (Below.refl _ _).alloc (Nat.le_refl _) _
  have HX1 := Lib.hid (heap_alloc_last w (Obj.cells #[.slice none 0 0, .slice none 0 0, .int .i64 0, .slice none 0 0] 43 (0, 0)))
  have H1 := Lib.hid (h.out.on hd1)
  have HB1 := Lib.hid hd1
  obtain ⟨X, hX⟩ : ∃ X, w.heap.size = X := ⟨_, rfl⟩
  have HXw := Lib.hid (show w.heap.size ≤ X by omega)
  rw [hX] at HX1
  try simp only [hX]
  generalize (w.alloc (Obj.cells #[.slice none 0 0, .slice none 0 0, .int .i64 0, .slice none 0 0] 43 (0, 0))) = w1 at *
  clear hd1 hX h
  go_wp2_with (first | (refine wl_load_off aggM szM Z 2 (sa ⟨Z, R, M, H, v, p⟩ o m s) 82 (Loc.a o m).toList H1.out.blk rfl (off_m _ o m s) rfl _ rfl rfl ?_))
  refine (copied_a o m.refs m.stack m.upper m.snaps w1 (Lib.hid H1.out.at) hr hk hs hss).mono ?_
  rintro e w2 ⟨o2, rfl, hO, hd⟩
  have HB2 := below_to HB1 (Nat.le_refl _) hd
  have HX2 := blk_to HX1 hd
  have HO2 := Lib.hid hO
  have HXl := Lib.hid (Err.lt_of_block HX1.out)
  clear hO hd H1 HB1 HX1
  go_wp2_with (first | (refine wl_storeM X #[.slice none 0 0, .slice none 0 0, .int .i64 0, .slice none 0 0] rfl o2 m HX2.out rfl _ _ rfl rfl rfl ?_))
  (try simp only [Exit.inBlock, Exit.then])
  refine bodyPost_ret (v := .agg (Loc.a o2 m)) ?_ rfl ?_
  · exact manifest_results _ _ X _ rfl rfl (setRow_heap _ X _ _ _ _ HX2.out)
  have k := mod_row w2 X (Loc.a o2 m)
  exact ⟨o2, rfl, (HO2.out.step (fun i hi hl => k.block i hl (fun (e : i = X) => by have := HXl.out; omega))).at_, HB2.out.trans (k.below HB2.out.size (fun i hi (e : i = X) => by have := HXw.out; omega))⟩
end Go.Proofs.YtaodgnladjafoaaGreatDoor.Sto
