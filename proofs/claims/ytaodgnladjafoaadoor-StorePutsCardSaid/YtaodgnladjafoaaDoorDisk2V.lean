/- Disk.Write. -/
import Derived.Test.YtaodgnladjafoaaDoorDisk01V
import Derived.Great.BuildSlice
set_option linter.unusedVariables false
set_option linter.unusedSimpArgs false
namespace Go.Proofs.YtaodgnladjafoaaDoor.Dk
open Go.RowKit Go.Proofs.YtaodgnladjafoaaDoorW.PrintWords Go.Proofs.YtaodgnladjafoaaDoorW.PrintLast Go.Proofs.YtaodgnladjafoaaDoorW.PrintMore Go.Proofs.YtaodgnladjafoaaDoor.Md
open Go.Extern.Stop (cell)
open Go.Proofs.YtaodgnladjafoaaDoor.Err (Laid IsErr code_nil Chain at_some at_nil)
attribute [local go_sem] max2_int max_two
theorem zero67 : ∃ z67 : Array Value, (∀ w' : World, (zeroValue 127).run Tryd.prog w' = .ok (.agg z67) w') ∧ z67.size = 65 := ⟨#[.int .i64 0, .int .u8 0, .int .u8 0, .int .u8 0, .int .u8 0, .int .u8 0, .int .u8 0, .int .u8 0, .int .u8 0, .int .u8 0, .int .u8 0, .int .u8 0, .int .u8 0, .int .u8 0, .int .u8 0, .int .u8 0, .int .u8 0, .int .u8 0, .int .u8 0, .int .u8 0, .int .u8 0, .int .u8 0, .int .u8 0, .int .u8 0, .int .u8 0, .int .u8 0, .int .u8 0, .int .u8 0, .int .u8 0, .int .u8 0, .int .u8 0, .int .u8 0, .int .u8 0, .int .u8 0, .int .u8 0, .int .u8 0, .int .u8 0, .int .u8 0, .int .u8 0, .int .u8 0, .int .u8 0, .int .u8 0, .int .u8 0, .int .u8 0, .int .u8 0, .int .u8 0, .int .u8 0, .int .u8 0, .int .u8 0, .int .u8 0, .int .u8 0, .int .u8 0, .int .u8 0, .int .u8 0, .int .u8 0, .int .u8 0, .int .u8 0, .int .u8 0, .int .u8 0, .int .u8 0, .int .u8 0, .int .u8 0, .int .u8 0, .int .u8 0, .int .u8 0], fun w' => by kernel_rfl, rfl⟩
theorem fold_set (vs : List Value) : ∀ (off k : Nat) (cs : Array Value), off + k + vs.length ≤ cs.size → (List.foldl (fun (cs : Array Value) (x : Value × Nat) => cs.setIfInBounds (off + x.2) x.1) cs (vs.zipIdx k)).toList = cs.toList.take (off + k) ++ vs ++ cs.toList.drop (off + k + vs.length) := by
  induction vs with
  | nil => intro off k cs h; simp
  | cons v vs ih =>
    intro off k cs h
    simp only [List.length_cons] at h
    have hlt : off + k < cs.toList.length := by simp; omega
    rw [List.zipIdx_cons, List.foldl_cons, ih off (k + 1) _ (by simp; omega)]
    have e : (cs.setIfInBounds (off + k) v).toList = (cs.toList.take (off + k) ++ [v]) ++ cs.toList.drop (off + k + 1) := by
      rw [Array.toList_setIfInBounds, List.set_eq_take_append_cons_drop, if_pos hlt]; simp
    have hl : (cs.toList.take (off + k) ++ [v]).length = off + (k + 1) := by rw [List.length_append, List.length_take]; simp; simp at hlt; omega
    obtain ⟨A, hA⟩ : ∃ A, A = cs.toList.take (off + k) ++ [v] := ⟨_, rfl⟩
    obtain ⟨B, hB⟩ : ∃ B, B = cs.toList.drop (off + k + 1) := ⟨_, rfl⟩
    simp only [e, ← hA, ← hB]
    rw [← hA] at hl
    have t1 : (A ++ B).take (off + (k + 1)) = A := by rw [← hl]; exact List.take_left
    have t2 : (A ++ B).drop (off + (k + 1) + vs.length) = B.drop vs.length := by rw [← hl, List.drop_append, List.drop_of_length_le (by omega), List.nil_append, Nat.add_sub_cancel_left]
    rw [t1, t2, hA, hB, List.drop_drop]
    simp only [List.append_assoc, List.length_cons, List.cons_append, List.nil_append]
    congr 3
    rw [show off + k + 1 + vs.length = off + k + (vs.length + 1) by omega]
theorem fold_all (vs : List Value) (cs : Array Value) (h : cs.size = vs.length) : List.foldl (fun (cs : Array Value) (x : Value × Nat) => cs.setIfInBounds x.2 x.1) cs vs.zipIdx = vs.toArray := by
  have z := fold_set vs 0 0 cs (by omega)
  simp only [Nat.zero_add] at z
  apply Array.toList_inj.1
  rw [z]
  simp [List.drop_of_length_le, h]
theorem fold_one (v : Value) (vs : List Value) (cs : Array Value) (h : cs.size = 1 + vs.length) : List.foldl (fun (cs : Array Value) (x : Value × Nat) => cs.setIfInBounds (1 + x.2) x.1) (cs.setIfInBounds 0 v) vs.zipIdx = (v :: vs).toArray := by
  have z := fold_set vs 1 0 (cs.setIfInBounds 0 v) (by simp; omega)
  apply Array.toList_inj.1
  rw [z]
  obtain ⟨l⟩ := cs
  cases l with
  | nil => simp at h; omega
  | cons a l =>
    simp at h
    simp
    omega
def zsoft : Value := .agg #[.int .i64 0, .int .u8 0, .int .u8 0, .int .u8 0, .int .u8 0, .int .u8 0, .int .u8 0, .int .u8 0, .int .u8 0, .int .u8 0, .int .u8 0, .int .u8 0, .int .u8 0, .int .u8 0, .int .u8 0, .int .u8 0, .int .u8 0, .int .u8 0, .int .u8 0, .int .u8 0, .int .u8 0, .int .u8 0, .int .u8 0, .int .u8 0, .int .u8 0, .int .u8 0, .int .u8 0, .int .u8 0, .int .u8 0, .int .u8 0, .int .u8 0, .int .u8 0, .int .u8 0, .int .u8 0, .int .u8 0, .int .u8 0, .int .u8 0, .int .u8 0, .int .u8 0, .int .u8 0, .int .u8 0, .int .u8 0, .int .u8 0, .int .u8 0, .int .u8 0, .int .u8 0, .int .u8 0, .int .u8 0, .int .u8 0, .int .u8 0, .int .u8 0, .int .u8 0, .int .u8 0, .int .u8 0, .int .u8 0, .int .u8 0, .int .u8 0, .int .u8 0, .int .u8 0, .int .u8 0, .int .u8 0, .int .u8 0, .int .u8 0, .int .u8 0, .int .u8 0]
theorem zsoft_size : zsoft.cells.size = sk.sz := by rfl
theorem info67 : (Tryd.prog.info? 127).map (fun i => (i.zero, i.size, i.bytes)) = some (some zsoft, sk.sz, 72) := by kernel_rfl
theorem keepA {w : World} (o : Obj) {R B : Nat} {v : Value} {cs : List Value} (h : w.cell? ⟨R, 2, none⟩ = some v ∧ w.frozen? ⟨R, 2, none⟩ = false ∧ w.rangeAt B 0 cs) :
    (w.alloc o).drew.cell? ⟨R, 2, none⟩ = some v ∧ (w.alloc o).drew.frozen? ⟨R, 2, none⟩ = false ∧ (w.alloc o).drew.rangeAt B 0 cs := by
  have hl := World.block_lt_of_cell? w _ h.1
  exact ⟨(World.cell?_alloc_lt _ _ _ hl).trans h.1, (World.frozen?_alloc_past _ _ _ hl).trans h.2.1, (World.rangeAt_drew _ _ _ _).2 (World.rangeAt_alloc h.2.2 o)⟩
theorem reads_new (w : World) (x : Int × Pg) : ReadsRow (fun (x : Int × Pg) cs => cs = scs x) sk.sz (w.alloc (.cells (scs x).toArray 127)).drew (some ⟨w.heap.size, 0, none⟩) 1 [x] := by
  refine ⟨rfl, by decide, fun _ => ⟨_, rfl, fun j y hj => ?_⟩⟩
  have h0 : j = 0 ∧ y = x := by
    rcases j with _ | j
    · simp at hj; exact ⟨rfl, hj.symm⟩
    · simp at hj
  obtain ⟨rfl, rfl⟩ := h0
  refine ⟨scs y, by simp [scs, pcs_length, sk], rfl, fun i u hu => ?_⟩
  show (w.alloc (.cells (scs y).toArray 127)).cell? _ = some u
  rw [Addr.add_mid, cell_of_row _ _ _ _ _ _ (heap_alloc_last w _)]
  simpa using hu
theorem mod_grown {S : Nat → Prop} {w w' : World} {row : Option Nat} (h : w.grownBy w' row) (hs : ∀ k, row = some k → S k) : Mod S w w' :=
  ⟨h.os, h.tape, h.output, h.size, fun k hk hn => h.block k hk (fun e => hn (hs k e.symm))⟩
theorem keepG {w W w5 : World} {R B : Nat} {v : Value} {cs : List Value} (hW : Below w.heap.size w W) (hg : W.grownBy w5 v.ownBlock) (h : w.cell? ⟨R, 2, none⟩ = some v ∧ w.frozen? ⟨R, 2, none⟩ = false ∧ w.rangeAt B 0 cs) (hR : R < w.heap.size) (hB : B < w.heap.size) (nR : v.ownBlock ≠ some R) (nB : v.ownBlock ≠ some B) :
    w5.cell? ⟨R, 2, none⟩ = some v ∧ w5.frozen? ⟨R, 2, none⟩ = false ∧ w5.rangeAt B 0 cs := by
  have e1 : w5.heap[R]? = w.heap[R]? := (hg.block R (Nat.lt_of_lt_of_le hR hW.size) (fun e => nR e.symm)).trans (hW.block R hR)
  have e2 : w5.heap[B]? = w.heap[B]? := (hg.block B (Nat.lt_of_lt_of_le hB hW.size) (fun e => nB e.symm)).trans (hW.block B hB)
  refine ⟨by rw [← h.1]; simp [World.cell?, e1], by rw [← h.2.1]; simp [World.frozen?, e1], fun j u hu => ?_⟩
  rw [← h.2.2 j u hu]; simp [World.cell?, e2]
theorem pv_eq (p : Pg) : pv p = .agg (pa p) := rfl
theorem run_load30 (w : World) (b : Nat) (p : Pg) (h : w.heap[b]? = some (Obj.cells (pa p) 91 (0, 0))) : (Instr.loadAt 91 (.pointer (some ⟨b, 0, none⟩))).run Tryd.prog w = .ok (pv p) w := by
  simp only [Instr.loadAt, Instr.sureAddr, Sem.run_bind, Sem.run_pure, Result.andThen_ok]
  exact run_loadVar_row w b 91 91 (pa p) (0, 0) _ h Tryd.underlying91 rfl (by rw [size30, pa_size])
set_option maxHeartbeats 1000000 in
set_option maxRecDepth 100000 in
/-- a write within a disk that is up, with a budget -/
theorem write_ok (w : World) (R M : Nat) (v : Value) (d : Dsk) (i : Int) (p : Pg) (h : Hid (IsD w R M v d)) (hm : Hid (d.down = false)) (h0 : 0 ≤ i) (hi : i < d.size) (hb : d.budget ≠ 0) (hb0 : -1 ≤ d.budget) (hb1 : d.budget < 9223372036854775808) (hl : d.soft.length ≤ 9000) :
    Calls Tryd.prog 48 #[.pointer (some ⟨R, 0, none⟩), .int .i64 i, pv p] w fun ev w' => ev = .returned .nilIface ∧ ∃ v', Mod (Ft R M v) w w' ∧ IsD w' R M v' { d with soft := d.soft ++ [(i, p)], budget := max (d.budget - 1) (-1) } ∧ (v'.ownBlock = v.ownBlock ∨ ∃ b, v'.ownBlock = some b ∧ w.heap.size ≤ b) := by
  have hpv := pv_eq p
  go_enter Tryd.func48, Tryd.ntmps48
  go_wp2_with fail
  have hA : Below w.heap.size w (w.alloc (Obj.cells (pa p) 91 (0, 0))) := (Below.refl _ _).alloc (Nat.le_refl _) _
  refine (may_ok _ R M v d i (Lib.hid (h.out.on hA)) hm h0 hi).mono ?_
  rintro e w2 ⟨rfl, hd2⟩
  have HB2 := Lib.hid (hA.trans (hd2.mono (by simp)))
  have HD2 := Lib.hid (h.out.on HB2.out)
  have HP2 := Lib.hid (show w2.heap[w.heap.size]? = some (Obj.cells (pa p) 91 (0, 0)) from (hd2.block _ (by simp)).trans (heap_alloc_new _ _))
  clear hd2 hA
  have c4 := HD2.out.c4
  have f4 := HD2.out.fz 4
  have t1 : decide (d.budget = 0) = false := decide_eq_false hb
  have t2 : (d.budget == 0) = false := beq_eq_false_iff_ne.2 hb
  have q1 : IntKind.i64.wrap (d.budget - 1) = d.budget - 1 := IntWalk.i64_in _ (by omega)
  obtain ⟨b1, e1⟩ : ∃ b1 : Int, (if d.budget - 1 < -1 then -1 else d.budget - 1) = b1 := ⟨_, rfl⟩
  have HB1 := Lib.hid (show max (d.budget - 1) (-1) = b1 by rw [← e1]; split <;> omega)
  clear hb hb0 hb1 h0 hi
  go_wp2_with fail
  have HD3 := Lib.hid (HD2.out.put (d' := { d with budget := b1 }) (mod_set w2 R 4 (.int .i64 b1)) (HD2.out.setCell 4 _ _ rfl) rfl rfl)
  have HM3 := Lib.hid ((Mod.of_below (S := Ft R M v) HB2.out (Nat.le_refl _)).tr ((mod_set w2 R 4 (.int .i64 b1)).mono (fun _ _ h => .inl h)))
  have HP3 := Lib.hid (show (w2.setCell ⟨R, 4, none⟩ (.int .i64 b1)).heap[w.heap.size]? = some (Obj.cells (pa p) 91 (0, 0)) from (mod_set w2 R 4 (.int .i64 b1)).blk HP2.out (by have := h.out.ltR; omega))
  generalize w2.setCell ⟨R, 4, none⟩ (.int .i64 b1) = w3 at HD3 HM3 HP3 ⊢
  have hnR : w.heap.size ≠ R := by have := h.out.ltR; omega
  have hBv : v.ownBlock ≠ some w.heap.size := fun e => by
    obtain ⟨h0, inner, ho, hr⟩ := h.out.soft
    have := own_lt ho _ e
    omega
  clear HD2 HP2 HB2 c4 f4 t1 t2 q1 e1 h
  have hr3 : w3.rangeAt w.heap.size 0 (pcs p) := by
    have z := World.rangeAt_of_block HP3.out 0 64
    have e : ((pa p).extract 0 (0 + 64)).toList = pcs p := by
      have hs := pa_size p
      rw [show 0 + 64 = (pa p).size by omega, Array.extract_size, pa_list]
    rw [e] at z; exact z
  have HQ := Lib.hid (show w3.drew.cell? ⟨R, 2, none⟩ = some v ∧ w3.drew.frozen? ⟨R, 2, none⟩ = false ∧ w3.drew.rangeAt w.heap.size 0 (pcs p) from ⟨HD3.out.c2, HD3.out.fz 2, hr3⟩)
  have HQ0 := Lib.hid (show w3.cell? ⟨R, 2, none⟩ = some v ∧ w3.frozen? ⟨R, 2, none⟩ = false ∧ w3.rangeAt w.heap.size 0 (pcs p) from ⟨HD3.out.c2, HD3.out.fz 2, hr3⟩)
  clear hr3
  have hu30 := Tryd.underlying91
  have hi30 : (Tryd.prog.info? 91).map (·.size) = some (pcs p).length := by rw [pcs_length]; exact size30
  obtain ⟨z67, hz67, hzs⟩ := zero67
  have hne : (z67 = #[]) = False := eq_false (by rintro rfl; simp at hzs)
  have hlen : (pcs p).length = 64 := pcs_length p
  have hls : (scs (i, p)).length = 65 := by simp [scs, pcs_length]
  have F1 : List.foldl (fun (cs : Array Value) (x : Value × Nat) => cs.setIfInBounds (1 + x.2) x.1) (z67.setIfInBounds 0 (.int .i64 i)) (pcs p).zipIdx = (scs (i, p)).toArray := fold_one _ _ z67 (by omega)
  have F2 : ∀ cs : Array Value, cs.size = 65 → List.foldl (fun (cs : Array Value) (x : Value × Nat) => cs.setIfInBounds x.2 x.1) cs (scs (i, p)).zipIdx = (scs (i, p)).toArray := fun cs h => fold_all _ cs (by omega)
  clear hpv
  have hW : ∀ x : Int × Pg, Below w3.heap.size w3 (w3.alloc (.cells (scs x).toArray 127)).drew := fun x => ((Below.refl _ _).alloc (Nat.le_refl _) _).drew
  have hfr : ∀ (x : Int × Pg) (k : Nat), (w3.alloc (.cells (scs x).toArray 127)).drew.heap.size ≤ k → k ≠ R ∧ k ≠ M := fun x k hk => by
    have h1 := HD3.out.ltR
    have h2 := HD3.out.map.lt
    have h3 := (hW x).size
    omega
  have ho3 : ∀ k, v.ownBlock = some k → k ≠ R := fun k hk => (HD3.out.soft.1 k hk).1
  have hBl : w.heap.size < w3.heap.size := Err.lt_of_block HP3.out
  refine start_ (n := 13) (S := fun w' => w'.cell? ⟨R, 2, none⟩ = some v ∧ w'.frozen? ⟨R, 2, none⟩ = false ∧ w'.rangeAt w.heap.size 0 (pcs p)) (ds := [12]) #[false, false, false, false, false, false, false, false, false, false, false, false, false] (by kernel_rfl) rfl rfl ⟨HQ.out.1, HQ.out.2.1, HQ.out.2.2⟩ (fun hHeld => ?_)
  refine pure_ (i := 0) (N := some 34) (v := ?_) (a' := ?_) #[true, false, false, false, false, false, false, false, false, false, false, false, false] rfl rfl (by kernel_rfl) (fun _ _ _ h => h) (Or.inl ⟨by rfl, ?_⟩) ?_ ?_
  rotate_left
  · intro w'
    go_simp
    with_reducible rfl
  rotate_left
  · simp only [Act.put, List.setIfInBounds_toArray, List.set_cons_zero, List.set_cons_succ, i64_w, i32_w]
    rfl
  refine pure_ (i := 1) (N := some 35) (v := ?_) (a' := ?_) #[true, true, false, false, false, false, false, false, false, false, false, false, false] rfl rfl (by kernel_rfl) (fun _ _ _ h => h) (Or.inl ⟨by rfl, ?_⟩) ?_ ?_
  rotate_left
  · intro w'
    go_simp
    with_reducible rfl
  rotate_left
  · simp only [Act.put, List.setIfInBounds_toArray, List.set_cons_zero, List.set_cons_succ, i64_w, i32_w]
    rfl
  refine pure_ (i := 2) (N := some 36) (v := ?_) (a' := ?_) #[true, true, true, false, false, false, false, false, false, false, false, false, false] rfl rfl (by kernel_rfl) (fun _ _ _ h => h) (Or.inl ⟨by rfl, ?_⟩) ?_ ?_
  rotate_left
  · intro w'
    go_simp
    with_reducible rfl
  rotate_left
  · simp only [Act.put, List.setIfInBounds_toArray, List.set_cons_zero, List.set_cons_succ, i64_w, i32_w]
    rfl
  refine pure_ (i := 3) (N := some 37) (v := ?_) (a' := ?_) #[true, true, true, true, false, false, false, false, false, false, false, false, false] rfl rfl (by kernel_rfl) (fun _ _ _ h => h) (Or.inl ⟨by rfl, ?_⟩) ?_ ?_
  rotate_left
  · intro w'
    go_simp
    with_reducible rfl
  rotate_left
  · simp only [Act.put, List.setIfInBounds_toArray, List.set_cons_zero, List.set_cons_succ, i64_w, i32_w]
    rfl
  refine pure_ (i := 5) (N := some 39) (v := ?_) (a' := ?_) #[true, true, true, true, false, true, false, false, false, false, false, false, false] rfl rfl (by kernel_rfl) (fun _ _ _ h => h) (Or.inl ⟨by rfl, ?_⟩) ?_ ?_
  rotate_left
  · intro w'
    go_simp
    with_reducible rfl
  rotate_left
  · simp only [Act.put, List.setIfInBounds_toArray, List.set_cons_zero, List.set_cons_succ, i64_w, i32_w]
    rfl
  refine take_ (i := 4) (N := some 38) (v := ?_) (a' := ?_) #[true, true, true, true, true, true, false, false, false, false, false, false, false] rfl rfl (by kernel_rfl) (fun _ _ _ h => h) (Or.inl ⟨by rfl, ?_⟩) hHeld ?_ ?_
  rotate_left
  · rintro w' ⟨s0, s1, s2⟩
    go_simp
    with_reducible rfl
  rotate_left
  · simp only [Act.put, List.setIfInBounds_toArray, List.set_cons_zero, List.set_cons_succ, i64_w, i32_w]
    rfl
  refine one_ (i := 6) (N := some 40) #[true, true, true, true, true, true, true, false, false, false, false, false, false] rfl rfl (by kernel_rfl) (by decide) (fun K hK => ?_)
  rw [if_pos (by rfl)]
  refine wp_load_mid _ _ rfl _ _ rfl (pcs p) _ hHeld.2.2 hu30 rfl hi30 ?_
  refine hK.out _ _ ⟨hHeld.1, hHeld.2.1, hHeld.2.2⟩ (fun hHeld => ?_)
  clear hK K
  refine norm_ (a' := ?_) ?_ ?_
  rotate_left
  · show Act.put _ (some 40) _ = _
    simp only [Act.put, List.setIfInBounds_toArray, List.set_cons_zero, List.set_cons_succ, i64_w, i32_w]
    rfl
  refine pure_ (i := 7) (N := some 41) (v := ?_) (a' := ?_) #[true, true, true, true, true, true, true, true, false, false, false, false, false] rfl rfl (by kernel_rfl) (fun _ _ _ h => h) (Or.inl ⟨by rfl, ?_⟩) ?_ ?_
  rotate_left
  · intro w'
    go_simp
    with_reducible rfl
  rotate_left
  · simp only [Act.put, List.setIfInBounds_toArray, List.set_cons_zero, List.set_cons_succ, i64_w, i32_w]
    rfl
  refine one_ (i := 8) (N := some 42) #[true, true, true, true, true, true, true, true, true, false, false, false, false] rfl rfl (by kernel_rfl) (by decide) (fun K hK => ?_)
  refine value_ (w1 := ?_) (v := ?_) (by rfl) rfl ?_ ?_
  rotate_left 2
  · go_simp
    constructor
    · rfl
    · rfl
  refine hK.out _ _ ⟨(keepA _ HQ0.out).1, (keepA _ HQ0.out).2.1, (keepA _ HQ0.out).2.2⟩ (fun hHeld => ?_)
  clear hK K
  refine norm_ (a' := ?_) ?_ ?_
  rotate_left
  · show Act.put _ (some 42) _ = _
    simp only [Act.put, List.setIfInBounds_toArray, List.set_cons_zero, List.set_cons_succ, i64_w, i32_w]
    rfl
  refine one_ (i := 9) (N := some 43) #[true, true, true, true, true, true, true, true, true, true, false, false, false] rfl rfl (by kernel_rfl) (by decide) (fun K hK => ?_)
  refine Kd.R_append_rows_step sk (w0 := w3) 0 (by rfl) (.tmp 38) (.tmp 42) 61 127 zsoft 72 (by rfl) Tryd.underlying61 info67 zsoft_size (by decide) (by decide) v d.soft [(i, p)] _ _ _ (fun k => k ≠ R ∧ k ≠ M) (fun _ => False) (by rfl) (by rfl) (Kd.R_below HD3.out.soft (hW (i, p))) (reads_new w3 (i, p)) (fun _ _ h => h) (fun _ h => h.elim) (hfr (i, p)) ((hW (i, p)).mono (Nat.zero_le _)) (Nat.zero_le _) (by omega) ?_
  intro v1 w5 ho5 hb5 hg5 hn5
  obtain ⟨A1, c1, hv1⟩ := Kd.R_slice ho5
  obtain ⟨n1, hn1⟩ : ∃ n1, (d.soft ++ [(i, p)]).length = n1 := ⟨_, rfl⟩
  rw [hn1] at hv1
  clear hn1
  subst hv1
  have HO5 := Lib.hid ho5
  have HM5 := Lib.hid ((Mod.of_below (S := Ft R M v) (hW (i, p)) (Nat.le_refl _)).tr (mod_grown hg5 (fun k hk => .inr (.inr hk))))
  have HG5 := Lib.hid hg5
  have HN5 := Lib.hid hn5
  have hS5 := keepG (hW (i, p)) hg5 HQ0.out HD3.out.ltR hBl (fun e => ho3 _ e rfl) hBv
  have hf5 := hS5.2.1
  have hc5 := hS5.1
  clear ho5 hb5 hg5 hn5
  refine hK.out _ _ ⟨hS5.1, hS5.2.1, hS5.2.2⟩ (fun hHeld => ?_)
  clear hK K
  refine norm_ (a' := ?_) ?_ ?_
  rotate_left
  · show Act.put _ (some 43) _ = _
    simp only [Act.put, List.setIfInBounds_toArray, List.set_cons_zero, List.set_cons_succ, i64_w, i32_w]
    rfl
  refine pure_ (i := 10) (N := some 44) (v := ?_) (a' := ?_) #[true, true, true, true, true, true, true, true, true, true, true, false, false] rfl rfl (by kernel_rfl) (fun _ _ _ h => h) (Or.inl ⟨by rfl, ?_⟩) ?_ ?_
  rotate_left
  · intro w'
    go_simp
    with_reducible rfl
  rotate_left
  · simp only [Act.put, List.setIfInBounds_toArray, List.set_cons_zero, List.set_cons_succ, i64_w, i32_w]
    rfl
  refine pure_ (i := 11) (N := some 45) (v := ?_) (a' := ?_) #[true, true, true, true, true, true, true, true, true, true, true, true, false] rfl rfl (by kernel_rfl) (fun _ _ _ h => h) (Or.inl ⟨by rfl, ?_⟩) ?_ ?_
  rotate_left
  · intro w'
    go_simp
    with_reducible rfl
  rotate_left
  · simp only [Act.put, List.setIfInBounds_toArray, List.set_cons_zero, List.set_cons_succ, i64_w, i32_w]
    rfl
  refine last_ (i := 12) (N := none) #[true, true, true, true, true, true, true, true, true, true, true, true, true] rfl rfl (by kernel_rfl) (by decide) (fun K hK => ?_)
  refine skip_ (w1 := ?_) (by rfl) rfl ?_ ?_
  rotate_left
  · go_simp
    rfl
  refine hK.out _ _ ?_
  clear hK K
  refine done_ (by kernel_rfl) ?_
  have hWi := hW (i, p)
  have hR3 := HD3.out.ltR
  have hM3 := HD3.out.map.lt
  have nR : v.ownBlock ≠ some R := fun e => ho3 _ e rfl
  have nM : v.ownBlock ≠ some M := fun e => (HD3.out.soft.1 M e).2 rfl
  have e1 : w5.heap[R]? = w3.heap[R]? := (HG5.out.block R (Nat.lt_of_lt_of_le hR3 hWi.size) (fun e => nR e.symm)).trans (hWi.block R hR3)
  have e2 : w5.heap[M]? = w3.heap[M]? := (HG5.out.block M (Nat.lt_of_lt_of_le hM3 hWi.size) (fun e => nM e.symm)).trans (hWi.block M hM3)
  have HD6 := Lib.hid (show IsD (w5.setCell ⟨R, 2, none⟩ (.slice A1 n1 c1)) R M (.slice A1 n1 c1) { d with soft := d.soft ++ [(i, p)], budget := max (d.budget - 1) (-1) } from
    ⟨by
      rw [HB1.out]
      show (w5.heap.modify R _)[R]? = _
      rw [Array.getElem?_modify, e1, HD3.out.blk]
      simp, by
      obtain ⟨es, ck, g1, g2⟩ := HD3.out.map
      refine ⟨es, ck, ?_, g2⟩
      rw [← g1, ← e2]
      exact Below.heap_setCell _ _ _ _ (fun e => HD3.out.ne e.symm), Kd.R_far HO5.out (fun k hk => hk.1) _⟩)
  have HM6 := Lib.hid ((HM3.out.tr HM5.out).set ⟨R, 2, none⟩ (.slice A1 n1 c1) (.inl (.inl rfl)))
  have HN6 : (Value.slice A1 n1 c1).ownBlock = v.ownBlock ∨ ∃ b, (Value.slice A1 n1 c1).ownBlock = some b ∧ w.heap.size ≤ b := by
    rcases HN5.out with e | ⟨b, e, hb⟩
    · exact .inl e
    · exact .inr ⟨b, e, by have := hWi.size; omega⟩
  clear hHeld hS5 hc5 hf5 e1 e2
  generalize w5.setCell ⟨R, 2, none⟩ (.slice A1 n1 c1) = w6 at HD6 HM6 ⊢
  generalize Value.slice A1 n1 c1 = v6 at HD6 HN6 ⊢
  go_wp2_with fail
  go_ret
  exact ⟨rfl, _, HM6.out, HD6.out, HN6⟩
end Go.Proofs.YtaodgnladjafoaaDoor.Dk
