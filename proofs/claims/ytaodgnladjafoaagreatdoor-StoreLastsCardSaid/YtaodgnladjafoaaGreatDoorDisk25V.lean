/- Several texts in one: words that the proof of the law uses. -/
import Derived.Test.YtaodgnladjafoaaGreatDoorDisk01V
import Derived.Great.BuildSlice
set_option linter.unusedVariables false
set_option linter.unusedSimpArgs false
namespace Go.Proofs.YtaodgnladjafoaaGreatDoor.Dk
open Go.RowKit Go.Proofs.YtaodgnladjafoaaGreatDoorW.PrintWords Go.Proofs.YtaodgnladjafoaaGreatDoorW.PrintLast Go.Proofs.YtaodgnladjafoaaGreatDoorW.PrintMore Go.Proofs.YtaodgnladjafoaaGreatDoor.Md
open Go.Extern.Stop (cell)
open Go.Proofs.YtaodgnladjafoaaGreatDoor.Err (Laid IsErr code_nil Chain at_some at_nil)
attribute [local go_sem] max2_int max_two
theorem zero67 : ∃ z67 : Array Value, (∀ w' : World, (zeroValue 103).run Tryz.prog w' = .ok (.agg z67) w') ∧ z67.size = 65 := ⟨#[.int .i64 0, .int .u8 0, .int .u8 0, .int .u8 0, .int .u8 0, .int .u8 0, .int .u8 0, .int .u8 0, .int .u8 0, .int .u8 0, .int .u8 0, .int .u8 0, .int .u8 0, .int .u8 0, .int .u8 0, .int .u8 0, .int .u8 0, .int .u8 0, .int .u8 0, .int .u8 0, .int .u8 0, .int .u8 0, .int .u8 0, .int .u8 0, .int .u8 0, .int .u8 0, .int .u8 0, .int .u8 0, .int .u8 0, .int .u8 0, .int .u8 0, .int .u8 0, .int .u8 0, .int .u8 0, .int .u8 0, .int .u8 0, .int .u8 0, .int .u8 0, .int .u8 0, .int .u8 0, .int .u8 0, .int .u8 0, .int .u8 0, .int .u8 0, .int .u8 0, .int .u8 0, .int .u8 0, .int .u8 0, .int .u8 0, .int .u8 0, .int .u8 0, .int .u8 0, .int .u8 0, .int .u8 0, .int .u8 0, .int .u8 0, .int .u8 0, .int .u8 0, .int .u8 0, .int .u8 0, .int .u8 0, .int .u8 0, .int .u8 0, .int .u8 0, .int .u8 0], fun w' => by kernel_rfl, rfl⟩
theorem fold_set (vs : List Value) : ∀ (off k : Nat) (cs : Array Value), off + k + vs.length ≤ cs.size → (List.foldl (fun (cs : Array Value) (x : Value × Nat) => cs.setIfInBounds (off + x.2) x.1) cs (vs.zipIdx k)).toList = cs.toList.take (off + k) ++ vs ++ cs.toList.drop (off + k + vs.length) := by
  induction vs with
  | nil => intro off k cs h; simp
  | cons v vs ih =>
    intro off k cs h
    simp only [List.length_cons] at h
    have hlt : off + k < cs.toList.length := by simp; omega
    rw [List.zipIdx_cons, List.foldl_cons, ih off (k + 1) _ (by simp; omega)]
    have e : (cs.setIfInBounds (off + k) v).toList = (cs.toList.take (off + k) ++ [v]) ++ cs.toList.drop (off + k + 1) := by
      rw [Array.toList_setIfInBounds, List.set_eq_take_append_cons_drop, if_pos hlt]; simp
    have hl : (cs.toList.take (off + k) ++ [v]).length = off + (k + 1) := by rw [List.length_append, List.length_take]; simp; simp at hlt; omega
    obtain ⟨A, hA⟩ : ∃ A, A = cs.toList.take (off + k) ++ [v] := ⟨_, rfl⟩
    obtain ⟨B, hB⟩ : ∃ B, B = cs.toList.drop (off + k + 1) := ⟨_, rfl⟩
    simp only [e, ← hA, ← hB]
    rw [← hA] at hl
    have t1 : (A ++ B).take (off + (k + 1)) = A := by rw [← hl]; exact List.take_left
    have t2 : (A ++ B).drop (off + (k + 1) + vs.length) = B.drop vs.length := by rw [← hl, List.drop_append, List.drop_of_length_le (by omega), List.nil_append, Nat.add_sub_cancel_left]
    rw [t1, t2, hA, hB, List.drop_drop]
    simp only [List.append_assoc, List.length_cons, List.cons_append, List.nil_append]
    congr 3
    rw [show off + k + 1 + vs.length = off + k + (vs.length + 1) by omega]
theorem fold_all (vs : List Value) (cs : Array Value) (h : cs.size = vs.length) : List.foldl (fun (cs : Array Value) (x : Value × Nat) => cs.setIfInBounds x.2 x.1) cs vs.zipIdx = vs.toArray := by
  have z := fold_set vs 0 0 cs (by omega)
  simp only [Nat.zero_add] at z
  apply Array.toList_inj.1
  rw [z]
  simp [List.drop_of_length_le, h]
theorem fold_one (v : Value) (vs : List Value) (cs : Array Value) (h : cs.size = 1 + vs.length) : List.foldl (fun (cs : Array Value) (x : Value × Nat) => cs.setIfInBounds (1 + x.2) x.1) (cs.setIfInBounds 0 v) vs.zipIdx = (v :: vs).toArray := by
  have z := fold_set vs 1 0 (cs.setIfInBounds 0 v) (by simp; omega)
  apply Array.toList_inj.1
  rw [z]
  obtain ⟨l⟩ := cs
  cases l with
  | nil => simp at h; omega
  | cons a l =>
    simp at h
    simp
    omega
def zsoft : Value := .agg #[.int .i64 0, .int .u8 0, .int .u8 0, .int .u8 0, .int .u8 0, .int .u8 0, .int .u8 0, .int .u8 0, .int .u8 0, .int .u8 0, .int .u8 0, .int .u8 0, .int .u8 0, .int .u8 0, .int .u8 0, .int .u8 0, .int .u8 0, .int .u8 0, .int .u8 0, .int .u8 0, .int .u8 0, .int .u8 0, .int .u8 0, .int .u8 0, .int .u8 0, .int .u8 0, .int .u8 0, .int .u8 0, .int .u8 0, .int .u8 0, .int .u8 0, .int .u8 0, .int .u8 0, .int .u8 0, .int .u8 0, .int .u8 0, .int .u8 0, .int .u8 0, .int .u8 0, .int .u8 0, .int .u8 0, .int .u8 0, .int .u8 0, .int .u8 0, .int .u8 0, .int .u8 0, .int .u8 0, .int .u8 0, .int .u8 0, .int .u8 0, .int .u8 0, .int .u8 0, .int .u8 0, .int .u8 0, .int .u8 0, .int .u8 0, .int .u8 0, .int .u8 0, .int .u8 0, .int .u8 0, .int .u8 0, .int .u8 0, .int .u8 0, .int .u8 0, .int .u8 0]
theorem zsoft_size : zsoft.cells.size = sk.sz := by rfl
theorem info67 : (Tryz.prog.info? 103).map (fun i => (i.zero, i.size, i.bytes)) = some (some zsoft, sk.sz, 72) := by kernel_rfl
theorem keepA {w : World} (o : Obj) {R B : Nat} {v : Value} {cs : List Value} (h : w.cell? ⟨R, 2, none⟩ = some v ∧ w.frozen? ⟨R, 2, none⟩ = false ∧ w.rangeAt B 0 cs) :
    (w.alloc o).drew.cell? ⟨R, 2, none⟩ = some v ∧ (w.alloc o).drew.frozen? ⟨R, 2, none⟩ = false ∧ (w.alloc o).drew.rangeAt B 0 cs := by
  have hl := World.block_lt_of_cell? w _ h.1
  exact ⟨(World.cell?_alloc_lt _ _ _ hl).trans h.1, (World.frozen?_alloc_past _ _ _ hl).trans h.2.1, (World.rangeAt_drew _ _ _ _).2 (World.rangeAt_alloc h.2.2 o)⟩
theorem reads_new (w : World) (x : Int × Pg) : ReadsRow (fun (x : Int × Pg) cs => cs = scs x) sk.sz (w.alloc (.cells (scs x).toArray 103)).drew (some ⟨w.heap.size, 0, none⟩) 1 [x] := by
  refine ⟨rfl, by decide, fun _ => ⟨_, rfl, fun j y hj => ?_⟩⟩
  have h0 : j = 0 ∧ y = x := by
    rcases j with _ | j
    · simp at hj; exact ⟨rfl, hj.symm⟩
    · simp at hj
  obtain ⟨rfl, rfl⟩ := h0
  refine ⟨scs y, by simp [scs, pcs_length, sk], rfl, fun i u hu => ?_⟩
  show (w.alloc (.cells (scs y).toArray 103)).cell? _ = some u
  rw [Addr.add_mid, cell_of_row _ _ _ _ _ _ (heap_alloc_last w _)]
  simpa using hu
theorem mod_grown {S : Nat → Prop} {w w' : World} {row : Option Nat} (h : w.grownBy w' row) (hs : ∀ k, row = some k → S k) : Mod S w w' :=
  ⟨h.os, h.tape, h.output, h.size, fun k hk hn => h.block k hk (fun e => hn (hs k e.symm))⟩
theorem keepG {w W w5 : World} {R B : Nat} {v : Value} {cs : List Value} (hW : Below w.heap.size w W) (hg : W.grownBy w5 v.ownBlock) (h : w.cell? ⟨R, 2, none⟩ = some v ∧ w.frozen? ⟨R, 2, none⟩ = false ∧ w.rangeAt B 0 cs) (hR : R < w.heap.size) (hB : B < w.heap.size) (nR : v.ownBlock ≠ some R) (nB : v.ownBlock ≠ some B) :
    w5.cell? ⟨R, 2, none⟩ = some v ∧ w5.frozen? ⟨R, 2, none⟩ = false ∧ w5.rangeAt B 0 cs := by
  have e1 : w5.heap[R]? = w.heap[R]? := (hg.block R (Nat.lt_of_lt_of_le hR hW.size) (fun e => nR e.symm)).trans (hW.block R hR)
  have e2 : w5.heap[B]? = w.heap[B]? := (hg.block B (Nat.lt_of_lt_of_le hB hW.size) (fun e => nB e.symm)).trans (hW.block B hB)
  refine ⟨by rw [← h.1]; simp [World.cell?, e1], by rw [← h.2.1]; simp [World.frozen?, e1], fun j u hu => ?_⟩
  rw [← h.2.2 j u hu]; simp [World.cell?, e2]
theorem pv_eq (p : Pg) : pv p = .agg (pa p) := rfl
theorem run_load30 (w : World) (b : Nat) (p : Pg) (h : w.heap[b]? = some (Obj.cells (pa p) 100 (0, 0))) : (Instr.loadAt 100 (.pointer (some ⟨b, 0, none⟩))).run Tryz.prog w = .ok (pv p) w := by
  simp only [Instr.loadAt, Instr.sureAddr, Sem.run_bind, Sem.run_pure, Result.andThen_ok]
  exact run_loadVar_row w b 100 100 (pa p) (0, 0) _ h Tryz.underlying100 rfl (by rw [size30, pa_size])
set_option maxHeartbeats 1000000 in
set_option maxRecDepth 100000 in
theorem write_ok (w : World) (R M : Nat) (v : Value) (d : Dsk) (i : Int) (p : Pg) (h : Hid (IsD w R M v d)) (hm : Hid (d.down = false)) (h0 : 0 ≤ i) (hi : i < d.size) (hb : d.budget ≠ 0) (hb0 : -1 ≤ d.budget) (hb1 : d.budget < 9223372036854775808) (hl : d.soft.length ≤ 9000) :
    Calls Tryz.prog 24 #[.pointer (some ⟨R, 0, none⟩), .int .i64 i, pv p] w fun ev w' => ev = .returned .nilIface ∧ ∃ v', Mod (Ft R M v) w w' ∧ IsD w' R M v' { d with soft := d.soft ++ [(i, p)], budget := max (d.budget - 1) (-1) } ∧ (v'.ownBlock = v.ownBlock ∨ ∃ b, v'.ownBlock = some b ∧ w.heap.size ≤ b) := by
  have hpv := pv_eq p
  go_enter Tryz.func24, Tryz.ntmps24
  go_wp2_with fail
  have hA : Below w.heap.size w (w.alloc (Obj.cells (pa p) 100 (0, 0))) := (Below.refl _ _).alloc (Nat.le_refl _) _
  refine (may_ok _ R M v d i (Lib.hid (h.out.on hA)) hm h0 hi).mono ?_
  rintro e w2 ⟨rfl, hd2⟩
  have HB2 := Lib.hid (hA.trans (hd2.mono (by simp)))
  have HD2 := Lib.hid (h.out.on HB2.out)
  have HP2 := Lib.hid (show w2.heap[w.heap.size]? = some (Obj.cells (pa p) 100 (0, 0)) from (hd2.block _ (by simp)).trans (heap_alloc_new _ _))
  clear hd2 hA
  have c4 := HD2.out.c4
  have f4 := HD2.out.fz 4
  have t1 : decide (d.budget = 0) = false := decide_eq_false hb
  have t2 : (d.budget == 0) = false := beq_eq_false_iff_ne.2 hb
  have q1 : IntKind.i64.wrap (d.budget - 1) = d.budget - 1 := IntWalk.i64_in _ (by omega)
  obtain ⟨b1, e1⟩ : ∃ b1 : Int, (if d.budget - 1 < -1 then -1 else d.budget - 1) = b1 := ⟨_, rfl⟩
  have HB1 := Lib.hid (show max (d.budget - 1) (-1) = b1 by rw [← e1]; split <;> omega)
  clear hb hb0 hb1 h0 hi
  go_wp2_with fail
  have HD3 := Lib.hid (HD2.out.put (d' := { d with budget := b1 }) (mod_set w2 R 4 (.int .i64 b1)) (HD2.out.setCell 4 _ _ rfl) rfl rfl)
  have HM3 := Lib.hid ((Mod.of_below (S := Ft R M v) HB2.out (Nat.le_refl _)).tr ((mod_set w2 R 4 (.int .i64 b1)).mono (fun _ _ h => .inl h)))
  have HP3 := Lib.hid (show (w2.setCell ⟨R, 4, none⟩ (.int .i64 b1)).heap[w.heap.size]? = some (Obj.cells (pa p) 100 (0, 0)) from (mod_set w2 R 4 (.int .i64 b1)).blk HP2.out (by have := h.out.ltR; omega))
  generalize w2.setCell ⟨R, 4, none⟩ (.int .i64 b1) = w3 at HD3 HM3 HP3 ⊢
  have hnR : w.heap.size ≠ R := by have := h.out.ltR; omega
  have hBv : v.ownBlock ≠ some w.heap.size := fun e => by
    obtain ⟨h0, inner, ho, hr⟩ := h.out.soft
    have := own_lt ho _ e
    omega
  clear HD2 HP2 HB2 c4 f4 t1 t2 q1 e1 h
  have hr3 : w3.rangeAt w.heap.size 0 (pcs p) := by
    have z := World.rangeAt_of_block HP3.out 0 64
    have e : ((pa p).extract 0 (0 + 64)).toList = pcs p := by
      have hs := pa_size p
      rw [show 0 + 64 = (pa p).size by omega, Array.extract_size, pa_list]
    rw [e] at z; exact z
  have HQ := Lib.hid (show w3.drew.cell? ⟨R, 2, none⟩ = some v ∧ w3.drew.frozen? ⟨R, 2, none⟩ = false ∧ w3.drew.rangeAt w.heap.size 0 (pcs p) from ⟨HD3.out.c2, HD3.out.fz 2, hr3⟩)
  have HQ0 := Lib.hid (show w3.cell? ⟨R, 2, none⟩ = some v ∧ w3.frozen? ⟨R, 2, none⟩ = false ∧ w3.rangeAt w.heap.size 0 (pcs p) from ⟨HD3.out.c2, HD3.out.fz 2, hr3⟩)
  clear hr3
  have hu30 := Tryz.underlying100
  have hi30 : (Tryz.prog.info? 100).map (·.size) = some (pcs p).length := by rw [pcs_length]; exact size30
  obtain ⟨z67, hz67, hzs⟩ := zero67
  have hne : (z67 = #[]) = False := eq_false (by rintro rfl; simp at hzs)
  have hlen : (pcs p).length = 64 := pcs_length p
  have hls : (scs (i, p)).length = 65 := by simp [scs, pcs_length]
  have F1 : List.foldl (fun (cs : Array Value) (x : Value × Nat) => cs.setIfInBounds (1 + x.2) x.1) (z67.setIfInBounds 0 (.int .i64 i)) (pcs p).zipIdx = (scs (i, p)).toArray := fold_one _ _ z67 (by omega)
  have F2 : ∀ cs : Array Value, cs.size = 65 → List.foldl (fun (cs : Array Value) (x : Value × Nat) => cs.setIfInBounds x.2 x.1) cs (scs (i, p)).zipIdx = (scs (i, p)).toArray := fun cs h => fold_all _ cs (by omega)
  clear hpv
  have hW : ∀ x : Int × Pg, Below w3.heap.size w3 (w3.alloc (.cells (scs x).toArray 103)).drew := fun x => ((Below.refl _ _).alloc (Nat.le_refl _) _).drew
  have hfr : ∀ (x : Int × Pg) (k : Nat), (w3.alloc (.cells (scs x).toArray 103)).drew.heap.size ≤ k → k ≠ R ∧ k ≠ M := fun x k hk => by
    have h1 := HD3.out.ltR
    have h2 := HD3.out.map.lt
    have h3 := (hW x).size
    omega
  have ho3 : ∀ k, v.ownBlock = some k → k ≠ R := fun k hk => (HD3.out.soft.1 k hk).1
  have hBl : w.heap.size < w3.heap.size := Err.lt_of_block HP3.out
  refine start_ (n := 13) (S := fun w' => w'.cell? ⟨R, 2, none⟩ = some v ∧ w'.frozen? ⟨R, 2, none⟩ = false ∧ w'.rangeAt w.heap.size 0 (pcs p)) (ds := [12]) (bzz 13 0) (by kernel_rfl) rfl rfl ⟨HQ.out.1, HQ.out.2.1, HQ.out.2.2⟩ (fun hHeld => ?_)
  refine rpz 0 34 ?_ (bzz 13 1) rfl rfl ?_ ?_ ?_ ?_
  rotate_left
  · intro w'
    go_simp
    with_reducible rfl
  rotate_left
  · simp only [zaP, zsA, zsZ, zsS, i64_w, i32_w]
    rfl
  refine rpz 1 35 ?_ (bzz 13 3) rfl rfl ?_ ?_ ?_ ?_
  rotate_left
  · intro w'
    go_simp
    with_reducible rfl
  rotate_left
  · simp only [zaP, zsA, zsZ, zsS, i64_w, i32_w]
    rfl
  refine rpz 2 36 ?_ (bzz 13 7) rfl rfl ?_ ?_ ?_ ?_
  rotate_left
  · intro w'
    go_simp
    with_reducible rfl
  rotate_left
  · simp only [zaP, zsA, zsZ, zsS, i64_w, i32_w]
    rfl
  refine rpz 3 37 ?_ (bzz 13 15) rfl rfl ?_ ?_ ?_ ?_
  rotate_left
  · intro w'
    go_simp
    with_reducible rfl
  rotate_left
  · simp only [zaP, zsA, zsZ, zsS, i64_w, i32_w]
    rfl
  refine rpz 5 39 ?_ (bzz 13 47) rfl rfl ?_ ?_ ?_ ?_
  rotate_left
  · intro w'
    go_simp
    with_reducible rfl
  rotate_left
  · simp only [zaP, zsA, zsZ, zsS, i64_w, i32_w]
    rfl
  refine rtz 4 38 ?_ (bzz 13 63) rfl rfl hHeld ?_ ?_ ?_ ?_
  rotate_left
  · rintro w' ⟨s0, s1, s2⟩
    go_simp
    with_reducible rfl
  rotate_left
  · simp only [zaP, zsA, zsZ, zsS, i64_w, i32_w]
    rfl
  refine roz 6 40 (bzz 13 127) rfl rfl (fun K hK => ?_)
  rw [if_pos (by rfl)]
  refine wp_load_mid _ _ rfl _ _ rfl (pcs p) _ hHeld.2.2 hu30 rfl hi30 ?_
  refine hK.out _ _ ⟨hHeld.1, hHeld.2.1, hHeld.2.2⟩ (fun hHeld => ?_)
  clear hK K
  refine norm_ (a' := ?_) ?_ ?_
  rotate_left
  · show Act.put _ (some 40) _ = _
    simp only [zaP, zsA, zsZ, zsS, i64_w, i32_w]
    rfl
  refine rpz 7 41 ?_ (bzz 13 255) rfl rfl ?_ ?_ ?_ ?_
  rotate_left
  · intro w'
    go_simp
    with_reducible rfl
  rotate_left
  · simp only [zaP, zsA, zsZ, zsS, i64_w, i32_w]
    rfl
  refine roz 8 42 (bzz 13 511) rfl rfl (fun K hK => ?_)
  refine value_ (w1 := ?_) (v := ?_) (by rfl) rfl ?_ ?_
  rotate_left 2
  · go_simp
    constructor
    · rfl
    · rfl
  refine hK.out _ _ ⟨(keepA _ HQ0.out).1, (keepA _ HQ0.out).2.1, (keepA _ HQ0.out).2.2⟩ (fun hHeld => ?_)
  clear hK K
  refine norm_ (a' := ?_) ?_ ?_
  rotate_left
  · show Act.put _ (some 42) _ = _
    simp only [zaP, zsA, zsZ, zsS, i64_w, i32_w]
    rfl
  refine roz 9 43 (bzz 13 1023) rfl rfl (fun K hK => ?_)
  refine Kd.R_append_rows_step sk (w0 := w3) 0 (by rfl) (.tmp 38) (.tmp 42) 76 103 zsoft 72 (by rfl) Tryz.underlying76 info67 zsoft_size (by decide) (by decide) v d.soft [(i, p)] _ _ _ (fun k => k ≠ R ∧ k ≠ M) (fun _ => False) (by rfl) (by rfl) (Kd.R_below HD3.out.soft (hW (i, p))) (reads_new w3 (i, p)) (fun _ _ h => h) (fun _ h => h.elim) (hfr (i, p)) ((hW (i, p)).mono (Nat.zero_le _)) (Nat.zero_le _) (by omega) ?_
  intro v1 w5 ho5 hb5 hg5 hn5
  obtain ⟨A1, c1, hv1⟩ := Kd.R_slice ho5
  obtain ⟨n1, hn1⟩ : ∃ n1, (d.soft ++ [(i, p)]).length = n1 := ⟨_, rfl⟩
  rw [hn1] at hv1
  clear hn1
  subst hv1
  have HO5 := Lib.hid ho5
  have HM5 := Lib.hid ((Mod.of_below (S := Ft R M v) (hW (i, p)) (Nat.le_refl _)).tr (mod_grown hg5 (fun k hk => .inr (.inr hk))))
  have HG5 := Lib.hid hg5
  have HN5 := Lib.hid hn5
  have hS5 := keepG (hW (i, p)) hg5 HQ0.out HD3.out.ltR hBl (fun e => ho3 _ e rfl) hBv
  have hf5 := hS5.2.1
  have hc5 := hS5.1
  clear ho5 hb5 hg5 hn5
  refine hK.out _ _ ⟨hS5.1, hS5.2.1, hS5.2.2⟩ (fun hHeld => ?_)
  clear hK K
  refine norm_ (a' := ?_) ?_ ?_
  rotate_left
  · show Act.put _ (some 43) _ = _
    simp only [zaP, zsA, zsZ, zsS, i64_w, i32_w]
    rfl
  refine rpz 10 44 ?_ (bzz 13 2047) rfl rfl ?_ ?_ ?_ ?_
  rotate_left
  · intro w'
    go_simp
    with_reducible rfl
  rotate_left
  · simp only [zaP, zsA, zsZ, zsS, i64_w, i32_w]
    rfl
  refine rpz 11 45 ?_ (bzz 13 4095) rfl rfl ?_ ?_ ?_ ?_
  rotate_left
  · intro w'
    go_simp
    with_reducible rfl
  rotate_left
  · simp only [zaP, zsA, zsZ, zsS, i64_w, i32_w]
    rfl
  refine last_ (i := 12) (N := none) (bzz 13 8191) rfl rfl (by kernel_rfl) (by decide) (fun K hK => ?_)
  refine skip_ (w1 := ?_) (by rfl) rfl ?_ ?_
  rotate_left
  · go_simp
    rfl
  refine hK.out _ _ ?_
  clear hK K
  refine done_ (by kernel_rfl) ?_
  have hWi := hW (i, p)
  have hR3 := HD3.out.ltR
  have hM3 := HD3.out.map.lt
  have nR : v.ownBlock ≠ some R := fun e => ho3 _ e rfl
  have nM : v.ownBlock ≠ some M := fun e => (HD3.out.soft.1 M e).2 rfl
  have e1 : w5.heap[R]? = w3.heap[R]? := (HG5.out.block R (Nat.lt_of_lt_of_le hR3 hWi.size) (fun e => nR e.symm)).trans (hWi.block R hR3)
  have e2 : w5.heap[M]? = w3.heap[M]? := (HG5.out.block M (Nat.lt_of_lt_of_le hM3 hWi.size) (fun e => nM e.symm)).trans (hWi.block M hM3)
  have HD6 := Lib.hid (show IsD (w5.setCell ⟨R, 2, none⟩ (.slice A1 n1 c1)) R M (.slice A1 n1 c1) { d with soft := d.soft ++ [(i, p)], budget := max (d.budget - 1) (-1) } from
    ⟨by
      rw [HB1.out]
      show (w5.heap.modify R _)[R]? = _
      rw [Array.getElem?_modify, e1, HD3.out.blk]
      simp, by
      obtain ⟨es, ck, g1, g2⟩ := HD3.out.map
      refine ⟨es, ck, ?_, g2⟩
      rw [← g1, ← e2]
      exact Below.heap_setCell _ _ _ _ (fun e => HD3.out.ne e.symm), Kd.R_far HO5.out (fun k hk => hk.1) _⟩)
  have HM6 := Lib.hid ((HM3.out.tr HM5.out).set ⟨R, 2, none⟩ (.slice A1 n1 c1) (.inl (.inl rfl)))
  have HN6 : (Value.slice A1 n1 c1).ownBlock = v.ownBlock ∨ ∃ b, (Value.slice A1 n1 c1).ownBlock = some b ∧ w.heap.size ≤ b := by
    rcases HN5.out with e | ⟨b, e, hb⟩
    · exact .inl e
    · exact .inr ⟨b, e, by have := hWi.size; omega⟩
  clear hHeld hS5 hc5 hf5 e1 e2
  generalize w5.setCell ⟨R, 2, none⟩ (.slice A1 n1 c1) = w6 at HD6 HM6 ⊢
  generalize Value.slice A1 n1 c1 = v6 at HD6 HN6 ⊢
  go_wp2_with fail
  go_ret
  exact ⟨rfl, _, HM6.out, HD6.out, HN6⟩
theorem isErr_mod {w w' : World} {v : Value} {n : Int} {S : Nat → Prop} (h : IsErr w v n) (k : Mod S w w') (hs : ∀ (b : Nat) (cs : Array Value), w.heap[b]? = some (Obj.cells cs 113 (0, 0)) → ¬ S b) : IsErr w' v n := by
  rcases h with h | ⟨l, h⟩
  · exact .inl h
  · exact .inr ⟨l, h.keep (fun b cs hb => k.blk hb (hs b cs hb))⟩
theorem at_err (op path : ByteArray) (n : Int) (w : World) : Calls Tryz.prog 31 #[.string op, .string path, errV n] w fun ev w' => ∃ T x, ev = .returned (.iface T x) ∧ IsErr w' (.iface T x) n ∧ Below w.heap.size w w' := by
  refine (at_some op path _ _ w).mono ?_
  rintro e w' ⟨rfl, rfl⟩
  exact ⟨_, _, rfl, .inr ⟨_, .wrap _ op path _ n [] (heap_alloc_last w _) (.base n)⟩, (Below.refl _ _).alloc (Nat.le_refl _) _⟩
set_option maxHeartbeats 1000000 in
set_option maxRecDepth 100000 in
theorem write_spent (w : World) (R M : Nat) (v : Value) (d : Dsk) (i : Int) (p : Pg) (h : Hid (IsD w R M v d)) (hn : mayN d i = 0) (hb : d.budget = 0) :
    Calls Tryz.prog 24 #[.pointer (some ⟨R, 0, none⟩), .int .i64 i, pv p] w fun ev w' => ∃ T x, ev = .returned (.iface T x) ∧ IsErr w' (.iface T x) 10 ∧ Below w.heap.size w w' := by
  have hpv := pv_eq p
  go_enter Tryz.func24, Tryz.ntmps24
  go_wp2_with fail
  have hA : Below w.heap.size w (w.alloc (Obj.cells (pa p) 100 (0, 0))) := (Below.refl _ _).alloc (Nat.le_refl _) _
  refine (may_c _ R M v d i (Lib.hid (h.out.on hA))).mono ?_
  rintro e w2 ⟨he, hd2⟩
  rw [if_pos hn] at he
  subst he
  have HB2 := Lib.hid (hA.trans (hd2.mono (by simp)))
  have c4 := (h.out.on HB2.out).c4
  rw [hb] at c4
  clear hd2 hA hn hb
  go_wp2_with fail
  refine (at_err _ _ 10 w2).mono ?_
  rintro e w3 ⟨T, x, rfl, he, hd3⟩
  have HE := Lib.hid he
  have HB3 := Lib.hid (HB2.out.trans (hd3.mono HB2.out.size))
  clear he hd3
  go_wp2_with fail
  go_ret
  exact ⟨T, x, rfl, HE.out, HB3.out⟩
theorem store30 (W : World) (b : Nat) (q p : Pg) (h : W.heap[b]? = some (Obj.cells (pa q) 100 (0, 0))) : (Instr.storeAt 100 (.pointer (some ⟨b, 0, none⟩)) (pv p)).run Tryz.prog W = .ok () (W.setRow b (pa p)) := by
  simp only [Instr.storeAt, Instr.sureAddr, Sem.run_bind, Sem.run_pure, Result.andThen_ok]
  exact run_storeVar_row W b 100 100 (pa q) (pa p) h (by rw [size30, pa_size]) (by rw [pa_size, pa_size]) (pa_one p)
theorem row_at (W : World) (b : Nat) (q p : Pg) (h : W.heap[b]? = some (Obj.cells (pa q) 100 (0, 0))) : (W.setRow b (pa p)).heap[b]? = some (Obj.cells (pa p) 100 (0, 0)) := by
  show (W.heap.modify b _)[b]? = _
  rw [Array.getElem?_modify]
  simp [h]
theorem mod_row (W : World) (b : Nat) (cs : Array Value) : Mod (· = b) W (W.setRow b cs) :=
  ⟨rfl, rfl, rfl, by simp, fun k hk hs => by
    show (W.heap.modify b _)[k]? = _
    rw [Array.getElem?_modify, if_neg (fun e => hs e.symm)]⟩
theorem run_loadVar30 (w : World) (b : Nat) (p : Pg) (h : w.heap[b]? = some (Obj.cells (pa p) 100 (0, 0))) : (loadVar 100 ⟨b, 0, none⟩).run Tryz.prog w = .ok (pv p) w :=
  run_loadVar_row w b 100 100 (pa p) (0, 0) _ h Tryz.underlying100 rfl (by rw [size30, pa_size])
theorem read_results (tmps : Array Value) (W : World) (b : Nat) (p : Pg) (e : Value) (h4 : tmps.getD 4 undef = .pointer (some ⟨b, 0, none⟩)) (h5 : tmps.getD 5 undef = e) (h : W.heap[b]? = some (Obj.cells (pa p) 100 (0, 0))) : (results Tryz.f50 tmps).run Tryz.prog W = .ok (.tuple #[pv p, e]) W := by
  have hl := run_loadVar30 W b p h
  have h4' : tmps[4]?.getD undef = .pointer (some ⟨b, 0, none⟩) := by simpa using h4
  have h5' : tmps[5]?.getD undef = e := by simpa using h5
  simp [results, Tryz.results50, asAddr, h4', h5', hl]
section
variable {ops : Array Oper} {rest : List Oper} {o : Oper} {a : Act} {w : World} {Q : Exit → Act → World → Prop}
theorem wl_build30 (hgd : o.guard = none) (ho : o.op = .build 100 #[]) (h : wpList Tryz.prog ops Q rest (a.put o.dst (pv pz)) w) : wpList Tryz.prog ops Q (o :: rest) a w :=
  Kd.event_run hgd (by unfold execOp; simp only [ho]; kernel_rfl) h
theorem wl_alloc30 (hgd : o.guard = none) (ho : o.op = .alloc 100) (h : wpList Tryz.prog ops Q rest (a.put o.dst (.pointer (some ⟨w.heap.size, 0, none⟩))) (w.alloc (Obj.cells (pa pz) 100 (0, 0)))) : wpList Tryz.prog ops Q (o :: rest) a w :=
  Kd.event_run hgd (by unfold execOp; simp only [ho]; kernel_rfl) h
theorem wl_store30 (b : Nat) (q p : Pg) (hp : w.heap[b]? = some (Obj.cells (pa q) 100 (0, 0))) (hgd : o.guard = none) (x y : Operand) (ho : o.op = .store 100 x y) (hx : a.eval x = .pointer (some ⟨b, 0, none⟩)) (hy : a.eval y = pv p)
    (h : wpList Tryz.prog ops Q rest (a.put o.dst undef) (w.setRow b (pa p))) : wpList Tryz.prog ops Q (o :: rest) a w :=
  wpList_plain hgd fun K hK => by
    unfold Oper.wp execOp
    simp only [ho, hx, hy, store30 w b q p hp, Sem.run_bind, Sem.run_pure, Result.andThen_ok]
    exact hK _ _ h
theorem wl_load30 (b : Nat) (p : Pg) (hp : w.heap[b]? = some (Obj.cells (pa p) 100 (0, 0))) (hgd : o.guard = none) (x : Operand) (ho : o.op = .load 100 x) (hx : a.eval x = .pointer (some ⟨b, 0, none⟩))
    (h : wpList Tryz.prog ops Q rest (a.put o.dst (pv p)) w) : wpList Tryz.prog ops Q (o :: rest) a w :=
  Kd.event_run hgd (by unfold execOp; simp only [ho, hx, run_load30 w b p hp, Sem.run_bind, Sem.run_pure, Result.andThen_ok]) h
end
def rd (d : Dsk) (i : Int) : Pg := d.soft.foldl (fun out x => if x.1 = i then x.2 else out) (d.firm i)
set_option maxHeartbeats 1000000 in
set_option maxRecDepth 100000 in
theorem read_may (w : World) (R M : Nat) (v : Value) (d : Dsk) (i : Int) (h : Hid (IsD w R M v d)) (hn : mayN d i ≠ 0) :
    Calls Tryz.prog 50 #[.pointer (some ⟨R, 0, none⟩), .int .i64 i] w fun ev w' => ∃ T x, ev = .returned (.tuple #[pv pz, .iface T x]) ∧ IsErr w' (.iface T x) (mayN d i) ∧ Below w.heap.size w w' := by
  go_enter Tryz.func50, Tryz.ntmps50
  go_wp2_with (first | (refine wl_alloc30 rfl rfl ?_))
  have hA : Below w.heap.size w (w.alloc (Obj.cells (pa pz) 100 (0, 0))) := (Below.refl _ _).alloc (Nat.le_refl _) _
  have hP : (w.alloc (Obj.cells (pa pz) 100 (0, 0))).heap[w.heap.size]? = some (Obj.cells (pa pz) 100 (0, 0)) := heap_alloc_last _ _
  refine (may_c _ R M v d i (Lib.hid (h.out.on hA))).mono ?_
  rintro e w2 ⟨he, hd2⟩
  rw [if_neg hn] at he
  subst he
  have HB2 := Lib.hid (hA.trans (hd2.mono (by simp)))
  have HP2 := Lib.hid ((hd2.block w.heap.size (by simp)).trans hP)
  clear hd2 hA hP
  obtain ⟨n, hn2⟩ : ∃ n, mayN d i = n := ⟨_, rfl⟩
  have HN := Lib.hid hn2
  have hev : errV n = .iface 74 (.int .i64 n) := rfl
  rw [hn2, hev]
  clear hn hn2
  go_wp2_with (first | (refine wl_build30 rfl rfl ?_))
  refine (at_err _ _ n w2).mono ?_
  rintro e w3 ⟨T, x, rfl, he, hd3⟩
  have HE := Lib.hid he
  have HB3 := Lib.hid (HB2.out.trans (hd3.mono HB2.out.size))
  have hP3 := (hd3.block w.heap.size (Err.lt_of_block HP2.out)).trans HP2.out
  clear he hd3
  go_wp2_with (first | (refine wl_store30 w.heap.size pz pz hP3 rfl _ _ rfl rfl rfl ?_))
  (try simp only [Exit.inBlock, Exit.then])
  refine bodyPost_ret (v := .tuple #[pv pz, .iface T x]) ?_ rfl ?_
  · exact read_results _ _ w.heap.size pz (.iface T x) rfl rfl (row_at _ _ pz _ hP3)
  have hM := mod_row w3 w.heap.size (pa pz)
  refine ⟨T, x, rfl, ?_, HB3.out.trans (hM.below HB3.out.size (fun i hi (e : i = w.heap.size) => by omega))⟩
  rw [HN.out]
  exact isErr_mod HE.out hM (fun k cs hk (e : k = w.heap.size) => by subst e; rw [hP3] at hk; simp at hk)
def sa (x : Int × Pg) : Array Value := (scs x).toArray
def sv (x : Int × Pg) : Value := .agg (sa x)
theorem sa_size (x : Int × Pg) : (sa x).size = 65 := by simp [sa, scs, pcs_length]
theorem sa_one (x : Int × Pg) : (sa x).all (·.oneCell') = true := all_oneCell_toArray (scs_one x)
theorem size67 : (Tryz.prog.info? 103).map (·.size) = some 65 := by kernel_rfl
theorem zsoft_sz : zsoft.cells.size = 65 := by rfl
section
variable {ops : Array Oper} {rest : List Oper} {o : Oper} {a : Act} {w : World} {Q : Exit → Act → World → Prop}
theorem wl_look (M : Nat) (F : Int → Pg) (k : Int) (hm : MapAt w M F) (hgd : o.guard = none) (x y : Operand) (ho : o.op = .lookup 75 x y false) (hx : a.eval x = .map (some M)) (hy : a.eval y = .int .i64 k)
    (h : wpList Tryz.prog ops Q rest (a.put o.dst (pv (F k))) w) : wpList Tryz.prog ops Q (o :: rest) a w :=
  Kd.event_run hgd (by unfold execOp; simp only [ho, hx, hy, look w M F k hm, Sem.run_bind, Sem.run_pure, Result.andThen_ok]) h
theorem wl_alloc67 (hgd : o.guard = none) (ho : o.op = .alloc 103) (h : wpList Tryz.prog ops Q rest (a.put o.dst (.pointer (some ⟨w.heap.size, 0, none⟩))) (w.alloc (Obj.cells zsoft.cells 103 (0, 0)))) : wpList Tryz.prog ops Q (o :: rest) a w :=
  Kd.event_run hgd (by unfold execOp; simp only [ho]; kernel_rfl) h
theorem wl_store67 {W : World} (z : Int × Pg) (hgd : o.guard = none) (x y : Operand) (ho : o.op = .store 103 x y) (hx : a.eval x = .pointer (some ⟨W.heap.size, 0, none⟩)) (hy : a.eval y = sv z)
    (h : wpList Tryz.prog ops Q rest (a.put o.dst undef) (W.alloc (Obj.cells (sa z) 103 (0, 0)))) : wpList Tryz.prog ops Q (o :: rest) a (W.alloc (Obj.cells zsoft.cells 103 (0, 0))) :=
  wpList_plain hgd fun K hK => by
    unfold Oper.wp execOp
    simp only [ho, hx, hy]
    have e : (Instr.storeAt 103 (.pointer (some ⟨W.heap.size, 0, none⟩)) (sv z)).run Tryz.prog (W.alloc (Obj.cells zsoft.cells 103 (0, 0))) = .ok () (W.alloc (Obj.cells (sa z) 103 (0, 0))) := run_storeAt_new W 103 _ _ (by rw [size67, sa_size]) (by rw [zsoft_sz, sa_size]) (sa_one z)
    simp only [e, Sem.run_bind, Sem.run_pure, Result.andThen_ok]
    exact hK _ _ h
theorem wl_store30n {W : World} (q p : Pg) (hgd : o.guard = none) (x y : Operand) (ho : o.op = .store 100 x y) (hx : a.eval x = .pointer (some ⟨W.heap.size, 0, none⟩)) (hy : a.eval y = pv p)
    (h : wpList Tryz.prog ops Q rest (a.put o.dst undef) (W.alloc (Obj.cells (pa p) 100 (0, 0)))) : wpList Tryz.prog ops Q (o :: rest) a (W.alloc (Obj.cells (pa q) 100 (0, 0))) := by
  refine wl_store30 W.heap.size q p (heap_alloc_last _ _) hgd x y ho hx hy ?_
  rw [World.setRow_alloc_new]
  exact h
theorem wl_load67 (b off : Nat) (z : Int × Pg) (hr : w.rangeAt b off (scs z)) (hgd : o.guard = none) (x : Operand) (ho : o.op = .load 103 x) (hx : a.eval x = .pointer (some ⟨b, off, none⟩))
    (h : wpList Tryz.prog ops Q rest (a.put o.dst (sv z)) w) : wpList Tryz.prog ops Q (o :: rest) a w :=
  Kd.event_run hgd (by
    unfold execOp
    simp only [ho, hx, run_loadAt_mid w b off 103 (scs z) _ hr Tryz.underlying103 rfl (by rw [size67]; simp [scs, pcs_length]), Sem.run_bind, Sem.run_pure, Result.andThen_ok]
    rfl) h
theorem wl_loadP (b off : Nat) (p : Pg) (hr : w.rangeAt b off (pcs p)) (hgd : o.guard = none) (x : Operand) (ho : o.op = .load 100 x) (hx : a.eval x = .pointer (some ⟨b, off, none⟩))
    (h : wpList Tryz.prog ops Q rest (a.put o.dst (pv p)) w) : wpList Tryz.prog ops Q (o :: rest) a w :=
  Kd.event_run hgd (by
    unfold execOp
    simp only [ho, hx, run_loadAt_mid w b off 100 (pcs p) _ hr Tryz.underlying100 rfl (by rw [size30, pcs_length]), Sem.run_bind, Sem.run_pure, Result.andThen_ok]
    rfl) h
end
theorem IsD.ft_lt {w : World} {R M : Nat} {v : Value} {d : Dsk} (h : IsD w R M v d) : ∀ i, Ft R M v i → i < w.heap.size := by
  rintro i (rfl | rfl | e)
  · exact h.ltR
  · exact h.map.lt
  · obtain ⟨h0, inner, ho, hr⟩ := h.soft
    exact own_lt ho i e
theorem soft_at {w : World} {ok : Nat → Prop} {A : Option Addr} {n c : Nat} {l : List (Int × Pg)} (h : sk.R 103 w 0 ok (.slice A n c) l) (k : Nat) (hk : k < l.length) : ∃ g, A = some ⟨g, 0, none⟩ ∧ w.rangeAt g (k * 65) (scs l[k]) := by
  obtain ⟨g, cap, e, _⟩ := Kd.R_form h (by omega)
  injection e with e1 e2 e3
  subst e1
  obtain ⟨_, _, hr⟩ := Kd.R_reads' h
  obtain ⟨_, _, hx⟩ := hr
  obtain ⟨ad, ea, hx⟩ := hx (by omega)
  cases ea
  obtain ⟨cs, h1, h2, h4⟩ := hx k l[k] (List.getElem?_eq_getElem hk)
  have h2' : cs = scs l[k] := h2
  subst h2'
  refine ⟨g, rfl, fun j u hu => ?_⟩
  have := h4 j u hu
  rw [Addr.add_mid] at this
  simpa [sk] using this
theorem soft_cells (W : World) (z : Int × Pg) : (W.alloc (Obj.cells (sa z) 103 (0, 0))).cell? ⟨W.heap.size, 0, none⟩ = some (.int .i64 z.1) ∧ (W.alloc (Obj.cells (sa z) 103 (0, 0))).rangeAt W.heap.size 1 (pcs z.2) := by
  have hb := heap_alloc_last W (Obj.cells (sa z) 103 (0, 0))
  refine ⟨by rw [cell_of_row _ _ 0 _ _ _ hb]; rfl, fun j u hu => ?_⟩
  rw [cell_of_row _ _ _ _ _ _ hb, ← hu]
  simp [sa, scs, Nat.add_comm 1 j]
set_option maxHeartbeats 4000000 in
set_option maxRecDepth 100000 in
theorem read_ok (w : World) (R M : Nat) (v : Value) (d : Dsk) (i : Int) (h : Hid (IsD w R M v d)) (hn : mayN d i = 0) (hl : d.soft.length ≤ 9000) :
    Calls Tryz.prog 50 #[.pointer (some ⟨R, 0, none⟩), .int .i64 i] w fun ev w' => ev = .returned (.tuple #[pv (rd d i), .nilIface]) ∧ Below w.heap.size w w' := by
  obtain ⟨A, c, rfl⟩ := Kd.R_slice h.out.soft
  go_enter Tryz.func50, Tryz.ntmps50
  go_wp2_with (first | (refine wl_alloc30 rfl rfl ?_))
  have hA : Below w.heap.size w (w.alloc (Obj.cells (pa pz) 100 (0, 0))) := (Below.refl _ _).alloc (Nat.le_refl _) _
  have hP : (w.alloc (Obj.cells (pa pz) 100 (0, 0))).heap[w.heap.size]? = some (Obj.cells (pa pz) 100 (0, 0)) := heap_alloc_last _ _
  refine (may_c _ R M _ d i (Lib.hid (h.out.on hA))).mono ?_
  rintro e w2 ⟨he, hd2⟩
  rw [if_pos hn] at he
  subst he
  have HB2 := Lib.hid (hA.trans (hd2.mono (by simp)))
  have HP2 := Lib.hid ((hd2.block w.heap.size (by simp)).trans hP)
  clear hd2 hA hP
  have c1 := (h.out.on HB2.out).c1
  have hm2 := (h.out.on HB2.out).map
  have HM2 := Lib.hid hm2
  obtain ⟨F, hF⟩ : ∃ F, d.firm i = F := ⟨_, rfl⟩
  have HF := Lib.hid hF
  have hB3 : Below w2.heap.size w2 (w2.alloc (Obj.cells (pa F) 100 (0, 0))) := (Below.refl _ _).alloc (Nat.le_refl _) _
  have hd3 := (h.out.on HB2.out).on hB3
  have c2 := hd3.c2
  have hq3 : (w2.alloc (Obj.cells (pa F) 100 (0, 0))).heap[w2.heap.size]? = some (Obj.cells (pa F) 100 (0, 0)) := heap_alloc_last _ _
  have HD3 := Lib.hid hd3
  have HQ3 := Lib.hid hq3
  have HB3 := Lib.hid (HB2.out.trans (hB3.mono HB2.out.size))
  have HP3 := Lib.hid ((hB3.block w.heap.size (Err.lt_of_block HP2.out)).trans HP2.out)
  have hne : w.heap.size ≠ w2.heap.size := by have := Err.lt_of_block HP2.out; omega
  have hge : w.heap.size ≤ w2.heap.size := HB2.out.size
  clear hB3 hd3 hq3 hm2
  go_wp2_with (first | (refine wl_look M d.firm i HM2.out rfl _ _ rfl rfl rfl ?_; rw [hF]) | (refine wl_alloc30 rfl rfl ?_) | (refine wl_store30n pz F rfl _ _ rfl rfl rfl ?_))
  obtain ⟨B, hB⟩ : ∃ B, w2.heap.size = B := ⟨_, rfl⟩
  rw [hB] at HQ3 hne hge
  obtain ⟨w3, hw3⟩ : ∃ w3, w2.alloc (Obj.cells (pa F) 100 (0, 0)) = w3 := ⟨_, rfl⟩
  rw [hw3] at HD3 HQ3 HB3 HP3
  rw [hw3]
  simp only [hB]
  clear hw3 hB HB2 HP2 c1 c2 HM2
  have hft : ∀ i, Ft R M (.slice A d.soft.length c) i → i ≠ B := fun i hi e => by have := h.out.ft_lt i hi; omega
  obtain ⟨n, hn2⟩ : ∃ n, d.soft.length = n := ⟨_, rfl⟩
  have HNn := Lib.hid hn2
  rw [hn2]
  rw [hn2] at HD3 hl hft
  have HFT := Lib.hid hft
  clear hft
  go_loopg [29] n (fun kq v0 wr => ∃ k : Nat, v0 = .int .i64 (k : Int) ∧ kq + k = n ∧ Hid (Below w.heap.size w wr) ∧ Hid (wr.heap[w.heap.size]? = some (Obj.cells (pa pz) 100 (0, 0))) ∧ Hid (wr.heap[B]? = some (Obj.cells (pa ((d.soft.take k).foldl (fun out x => if x.1 = i then x.2 else out) F)) 100 (0, 0))) ∧ Hid (IsD wr R M (.slice A n c) d))
  case atStart => exact ⟨0, rfl, by omega, HB3, HP3, HQ3, HD3⟩
  case round =>
    clear HB3 HP3 HQ3 HD3
    obtain ⟨k, rfl, hk, HB, HP, HQ, HD⟩ := hrel
    cases gk with
    | zero =>
      have hkn : k = n := by omega
      have c5 : decide ((k : Int) < (n : Int)) = false := decide_eq_false (by omega)
      have c5' : decide (k < n) = false := decide_eq_false (by omega)
      have HQ2 := Lib.hid (show wr.heap[B]? = some (Obj.cells (pa (rd d i)) 100 (0, 0)) by
        have := HQ.out
        rw [hkn, ← HNn.out, List.take_length] at this
        unfold rd; rw [HF.out]; exact this)
      clear hk hkn
      go_wp2_with (first | (refine wl_load30 B (rd d i) HQ2.out rfl _ rfl rfl ?_) | (refine wl_store30 w.heap.size pz (rd d i) HP.out rfl _ _ rfl rfl rfl ?_))
      (try simp only [Exit.inBlock, Exit.then])
      refine bodyPost_ret (v := .tuple #[pv (rd d i), .nilIface]) ?_ rfl ?_
      · exact read_results _ _ w.heap.size (rd d i) .nilIface rfl rfl (row_at _ _ pz _ HP.out)
      exact ⟨rfl, HB.out.trans ((mod_row wr w.heap.size (pa (rd d i))).below HB.out.size (fun i hi (e : i = w.heap.size) => by omega))⟩
    | succ k1 =>
      have hkn : k < n := by omega
      have hkl : k < d.soft.length := by have := HNn.out; omega
      have c5 : decide ((k : Int) < (n : Int)) = true := decide_eq_true (by omega)
      have c5' : decide (k < n) = true := decide_eq_true (by omega)
      have q5 : IntKind.i64.wrap ((k : Int) + 1) = (k : Int) + 1 := IntWalk.i64_in _ (by omega)
      have p1 : (0 ≤ (k : Int)) = True := eq_true (by omega)
      have p2 : ((k : Int) < (n : Int)) = True := eq_true (by omega)
      obtain ⟨g, rfl, hr⟩ := soft_at HD.out.soft k hkl
      have hfold : (d.soft.take (k + 1)).foldl (fun out x => if x.1 = i then x.2 else out) F = if (d.soft[k]).1 = i then (d.soft[k]).2 else (d.soft.take k).foldl (fun out x => if x.1 = i then x.2 else out) F := by
        rw [List.take_succ_eq_append_getElem hkl, List.foldl_append]; rfl
      obtain ⟨x, hx⟩ : ∃ x, d.soft[k] = x := ⟨_, rfl⟩
      rw [hx] at hr hfold
      have HR := Lib.hid hr
      have HFo := Lib.hid hfold
      obtain ⟨out, hout⟩ : ∃ out, (d.soft.take k).foldl (fun out x => if x.1 = i then x.2 else out) F = out := ⟨_, rfl⟩
      rw [hout] at HQ HFo
      obtain ⟨hc, hpr⟩ := soft_cells wr x
      have HPR := Lib.hid hpr
      clear hx hr hfold hout hpr
      have hb1 : Below wr.heap.size wr (wr.alloc (Obj.cells (sa x) 103 (0, 0))) := (Below.refl _ _).alloc (Nat.le_refl _) _
      have HB1 := Lib.hid (HB.out.trans (hb1.mono HB.out.size))
      have HP1 := Lib.hid ((hb1.block _ (Err.lt_of_block HP.out)).trans HP.out)
      have HQ1 := Lib.hid ((hb1.block _ (Err.lt_of_block HQ.out)).trans HQ.out)
      have HD1 := Lib.hid (HD.out.on hb1)
      clear hb1
      by_cases hx1 : x.1 = i
      · have e1 : (x.1 == i) = true := beq_iff_eq.2 hx1
        rw [if_pos hx1] at HFo
        clear hx1
        go_wp2_with (first | (refine wl_load67 g (k * 65) x HR.out rfl _ rfl rfl ?_) | (refine wl_alloc67 rfl rfl ?_) | (refine wl_store67 x rfl _ _ rfl rfl rfl ?_) | (refine wl_loadP wr.heap.size 1 x.2 HPR.out rfl _ rfl rfl ?_) | (refine wl_store30 B out x.2 HQ1.out rfl _ _ rfl rfl rfl ?_))
        have hM := mod_row (wr.alloc (Obj.cells (sa x) 103 (0, 0))) B (pa x.2)
        have HB9 := Lib.hid (HB1.out.trans (hM.below HB1.out.size (fun i hi (e : i = B) => by omega)))
        have HP9 := Lib.hid (hM.blk HP1.out hne)
        have HQ9 := Lib.hid (row_at _ _ out x.2 HQ1.out)
        have HD9 := Lib.hid (HD1.out.mod hM HFT.out)
        clear hM HB1 HP1 HQ1 HD1 HPR hc
        generalize (wr.alloc (Obj.cells (sa x) 103 (0, 0))).setRow B (pa x.2) = wx at HB9 HP9 HQ9 HD9 ⊢
        have HQ8 := Lib.hid (show wx.heap[B]? = some (Obj.cells (pa ((d.soft.take (k + 1)).foldl (fun out x => if x.1 = i then x.2 else out) F)) 100 (0, 0)) by rw [HFo.out]; exact HQ9.out)
        go_roundg k1
        case measure => exact Nat.lt_succ_self _
        case rel => exact ⟨k + 1, by simp, by omega, HB9, HP9, HQ8, HD9⟩
      · have e1 : (x.1 == i) = false := beq_eq_false_iff_ne.2 hx1
        rw [if_neg hx1] at HFo
        clear hx1
        go_wp2_with (first | (refine wl_load67 g (k * 65) x HR.out rfl _ rfl rfl ?_) | (refine wl_alloc67 rfl rfl ?_) | (refine wl_store67 x rfl _ _ rfl rfl rfl ?_))
        go_roundg k1
        case measure => exact Nat.lt_succ_self _
        case rel => exact ⟨k + 1, by simp, by omega, HB1, HP1, Lib.hid (by rw [HFo.out]; exact HQ1.out), HD1⟩
def bit (mask n : Nat) : Bool := mask / 2 ^ (n % 64) % 2 == 1
def stl (mask : Nat) (F : Int → Pg) : List (Int × Pg) → Nat → (Int → Pg)
  | [], _ => F
  | x :: r, n => stl mask (if bit mask n then upd F x.1 x.2 else F) r (n + 1)
theorem stl_snoc (mask : Nat) (x : Int × Pg) : ∀ (l : List (Int × Pg)) (F : Int → Pg) (n : Nat), stl mask F (l ++ [x]) n = if bit mask (n + l.length) then upd (stl mask F l n) x.1 x.2 else stl mask F l n
  | [], F, n => rfl
  | y :: l, F, n => by
    simp only [List.cons_append, stl, List.length_cons]
    rw [stl_snoc mask x l _ (n + 1), show n + 1 + l.length = n + (l.length + 1) by omega]
theorem u64_and1 (x : Nat) (h : x < 2 ^ 64) : Go.bits .and .u64 (x : Int) 1 = ((x % 2 : Nat) : Int) := by
  have key : (BitVec.ofInt 64 (x : Int) &&& BitVec.ofInt 64 1).toNat = x % 2 := by
    rw [BitVec.toNat_and, BitVec.toNat_ofInt]
    have : (BitVec.ofInt 64 1).toNat = 2 ^ 1 - 1 := by decide
    rw [this, Nat.and_two_pow_sub_one_eq_mod]
    omega
  show IntKind.u64.wrap ((BitVec.ofInt 64 (x : Int) &&& BitVec.ofInt 64 1).toNat : Nat) = _
  rw [key]
  simp [IntKind.wrap, IntKind.bits, IntKind.signed]
  omega
theorem bit_eq (mask k : Nat) (hm : mask < 2 ^ 64) : (Go.bits .and .u64 ((mask : Int) / 2 ^ (k % 64)) 1 == 1) = bit mask k := by
  have e : (mask : Int) / 2 ^ (k % 64) = ((mask / 2 ^ (k % 64) : Nat) : Int) := by push_cast; rfl
  rw [e, u64_and1 _ (Nat.lt_of_le_of_lt (Nat.div_le_self _ _) hm)]
  unfold bit
  rw [Bool.eq_iff_iff]
  simp
  omega
set_option maxHeartbeats 4000000 in
set_option maxRecDepth 100000 in
theorem settle_c (w : World) (R M : Nat) (v : Value) (d : Dsk) (mask : Nat) (h : Hid (IsD w R M v d)) (hm : mask < 2 ^ 64) (hl : d.soft.length ≤ 9000) :
    Calls Tryz.prog 48 #[.pointer (some ⟨R, 0, none⟩), .int .u64 (mask : Int)] w fun ev w' => ev = .returned (.tuple #[]) ∧ Mod (Ft R M v) w w' ∧ IsD w' R M (.slice none 0 0) { d with firm := stl mask d.firm d.soft 0, soft := [] } := by
  obtain ⟨A, c, rfl⟩ := Kd.R_slice h.out.soft
  obtain ⟨n, hn2⟩ : ∃ n, d.soft.length = n := ⟨_, rfl⟩
  have HNn := Lib.hid hn2
  have c2 := h.out.c2
  rw [hn2] at c2 h hl ⊢
  clear hn2
  go_enter Tryz.func48, Tryz.ntmps48
  go_wp2_with fail
  go_loopg [11] n (fun kq v0 wr => ∃ k : Nat, v0 = .int .i64 (k : Int) ∧ kq + k = n ∧ Hid (Mod (Ft R M (.slice A n c)) w wr) ∧ Hid (IsD wr R M (.slice A n c) { d with firm := stl mask d.firm (d.soft.take k) 0 }))
  case atStart => exact ⟨0, rfl, by omega, Lib.hid (Mod.refl _ _), h⟩
  case round =>
    clear h c2
    obtain ⟨k, rfl, hk, HM, HD⟩ := hrel
    cases gk with
    | zero =>
      have hkn : k = n := by omega
      have c5 : decide ((k : Int) < (n : Int)) = false := decide_eq_false (by omega)
      have c5' : decide (k < n) = false := decide_eq_false (by omega)
      have HD2 := Lib.hid (show IsD wr R M (.slice A n c) { d with firm := stl mask d.firm d.soft 0 } by
        have := HD.out
        rw [hkn, ← HNn.out, List.take_length, HNn.out] at this
        exact this)
      have f2 := HD2.out.fz 2
      have c2 := HD2.out.c2
      clear hk hkn HD
      go_wp2_with fail
      go_end0
      have hM := mod_set wr R 2 (.slice none 0 0)
      refine ⟨rfl, HM.out.tr (hM.mono (fun _ _ h => .inl h)), ?_, HD2.out.map.mod hM HD2.out.ne.symm, Kd.R_nil _ _ _ _ _⟩
      exact HD2.out.setCell 2 _ _ rfl
    | succ k1 =>
      have hkn : k < n := by omega
      have hkl : k < d.soft.length := by have := HNn.out; omega
      have c5 : decide ((k : Int) < (n : Int)) = true := decide_eq_true (by omega)
      have c5' : decide (k < n) = true := decide_eq_true (by omega)
      have q5 : IntKind.i64.wrap ((k : Int) + 1) = (k : Int) + 1 := IntWalk.i64_in _ (by omega)
      have p1 : (0 ≤ (k : Int)) = True := eq_true (by omega)
      have p2 : ((k : Int) < (n : Int)) = True := eq_true (by omega)
      obtain ⟨g, rfl, hr⟩ := soft_at HD.out.soft k hkl
      have hfold := stl_snoc mask d.soft[k] (d.soft.take k) d.firm 0
      rw [← List.take_succ_eq_append_getElem hkl, List.length_take, Nat.min_eq_left (Nat.le_of_lt hkl), Nat.zero_add] at hfold
      obtain ⟨x, hx⟩ : ∃ x, d.soft[k] = x := ⟨_, rfl⟩
      simp only [hx] at hr hfold
      have HR := Lib.hid hr
      have HFo := Lib.hid hfold
      obtain ⟨F, hF⟩ : ∃ F, stl mask d.firm (d.soft.take k) 0 = F := ⟨_, rfl⟩
      rw [hF] at HD HFo
      obtain ⟨hc, hpr⟩ := soft_cells wr x
      have HPR := Lib.hid hpr
      clear hx hr hfold hF hpr
      have hb1 : Below wr.heap.size wr (wr.alloc (Obj.cells (sa x) 103 (0, 0))) := (Below.refl _ _).alloc (Nat.le_refl _) _
      have HM1 := Lib.hid (HM.out.on_below hb1 (Nat.le_refl _))
      have HD1 := Lib.hid (HD.out.on hb1)
      clear hb1
      have eb := bit_eq mask k hm
      cases hb : bit mask k with
      | false =>
        rw [hb] at eb HFo
        have HF2 := Lib.hid (show stl mask d.firm (d.soft.take (k + 1)) 0 = F by rw [HFo.out]; rfl)
        clear HFo hb
        go_wp2_with (first | (refine wl_load67 g (k * 65) x HR.out rfl _ rfl rfl ?_) | (refine wl_alloc67 rfl rfl ?_) | (refine wl_store67 x rfl _ _ rfl rfl rfl ?_))
        go_roundg k1
        case measure => exact Nat.lt_succ_self _
        case rel => exact ⟨k + 1, by simp, by omega, HM1, Lib.hid (by rw [HF2.out]; exact HD1.out)⟩
      | true =>
        rw [hb] at eb HFo
        have HF2 := Lib.hid (show stl mask d.firm (d.soft.take (k + 1)) 0 = upd F x.1 x.2 by rw [HFo.out]; rfl)
        clear HFo hb
        go_wp2_with (first | (refine wl_load67 g (k * 65) x HR.out rfl _ rfl rfl ?_) | (refine wl_alloc67 rfl rfl ?_) | (refine wl_store67 x rfl _ _ rfl rfl rfl ?_))
        obtain ⟨W1, hW1⟩ : ∃ W1, wr.alloc (Obj.cells (sa x) 103 (0, 0)) = W1 := ⟨_, rfl⟩
        obtain ⟨K1, hK1⟩ : ∃ K1, wr.heap.size = K1 := ⟨_, rfl⟩
        rw [hW1] at HM1 HD1 HPR hc
        rw [hK1] at HPR hc
        rw [hW1]
        simp only [hK1]
        have hd1 : IsD W1.drew R M _ _ := HD1.out.mod (S := fun _ => False) (Mod.refl _ _).drew (fun _ _ h => h)
        obtain ⟨w9, hr9, hm9, hM9⟩ := Dk.store W1.drew M F x.1 x.2 hd1.map
        have hr9' : (Instr.mapUpdate 75 (.map (some M)) (.int .i64 x.1) (.agg (pcs x.2).toArray)).run Tryz.prog W1.drew = .ok () w9 := hr9
        have hKM : K1 ≠ M := by have := HD.out.map.lt; omega
        have hS : W1.drew.cell? ⟨R, 1, none⟩ = some (.map (some M)) ∧ W1.drew.cell? ⟨K1, 0, none⟩ = some (.int .i64 x.1) ∧ W1.drew.rangeAt K1 1 (pcs x.2) := ⟨hd1.c1, hc, HPR.out⟩
        have hS9 : w9.cell? ⟨R, 1, none⟩ = some (.map (some M)) ∧ w9.cell? ⟨K1, 0, none⟩ = some (.int .i64 x.1) ∧ w9.rangeAt K1 1 (pcs x.2) :=
          ⟨hM9.cell hS.1 (fun (e : R = M) => HD.out.ne e), hM9.cell hS.2.1 (fun (e : K1 = M) => hKM e), fun j u hu => hM9.cell (hS.2.2 j u hu) (fun (e : K1 = M) => hKM e)⟩
        have hs9 : Kd.R sk 103 w9 0 (fun k => k ≠ R ∧ k ≠ M) (.slice (some ⟨g, 0, none⟩) n c) d.soft := by
          obtain ⟨h0, inner, ho, hr⟩ := hd1.soft
          exact ⟨h0, inner, own_move ho (fun i hi => hM9.block i (own_lt ho i hi) (h0 i hi).2), hr⟩
        have HD9 := Lib.hid (show IsD w9 R M (.slice (some ⟨g, 0, none⟩) n c) { d with firm := upd F x.1 x.2 } from ⟨hM9.blk hd1.blk (fun (e : R = M) => HD.out.ne e), hm9, hs9⟩)
        have HM9 := Lib.hid ((HM1.out.drew).tr (hM9.mono (fun _ _ (h : _ = M) => .inr (.inl h))))
        have HS := Lib.hid hS
        have HS9 := Lib.hid hS9
        clear hS hS9 hr9 hc
        have hu30 := Tryz.underlying100
        have hi30 : (Tryz.prog.info? 100).map (·.size) = some (pcs x.2).length := by rw [pcs_length]; exact size30
        go_region_held3 (fun w' => w'.cell? ⟨R, 1, none⟩ = some (.map (some M)) ∧ w'.cell? ⟨K1, 0, none⟩ = some (.int .i64 x.1) ∧ w'.rangeAt K1 1 (pcs x.2))
          (first | with_reducible exact HS.out | with_reducible exact HS9.out)
          (fail)
        clear hm9 hM9 hs9
        go_wp2_with fail
        go_roundg k1
        case measure => exact Nat.lt_succ_self _
        case rel => exact ⟨k + 1, by simp, by omega, HM9, Lib.hid (by rw [HF2.out]; exact HD9.out)⟩
set_option maxHeartbeats 1000000 in
set_option maxRecDepth 100000 in
theorem flush_ok (w : World) (R M : Nat) (v : Value) (d : Dsk) (h : Hid (IsD w R M v d)) (hn : mayN d 0 = 0) (hl : d.soft.length ≤ 9000) :
    Calls Tryz.prog 68 #[.pointer (some ⟨R, 0, none⟩)] w fun ev w' => ev = .returned .nilIface ∧ Mod (Ft R M v) w w' ∧ IsD w' R M (.slice none 0 0) { d with firm := stl 18446744073709551615 d.firm d.soft 0, soft := [] } := by
  go_enter Tryz.func68, Tryz.ntmps68
  go_wp2_with fail
  refine (may_c _ R M v d 0 h).mono ?_
  rintro e w2 ⟨he, hd2⟩
  rw [if_pos hn] at he
  subst he
  have HB2 := Lib.hid hd2
  clear hd2
  go_wp2_with fail
  refine (settle_c w2 R M v d 18446744073709551615 (Lib.hid (h.out.on HB2.out)) (by decide) hl).mono ?_
  rintro e w3 ⟨rfl, hm, hd⟩
  have HM := Lib.hid ((Mod.of_below (S := Ft R M v) HB2.out (Nat.le_refl _)).tr hm)
  have HD := Lib.hid hd
  clear hm hd
  go_wp2_with fail
  go_ret
  exact ⟨rfl, HM.out, HD.out⟩
set_option maxHeartbeats 1000000 in
set_option maxRecDepth 100000 in
theorem crash_c (w : World) (R M : Nat) (v : Value) (d : Dsk) (mask : Nat) (h : Hid (IsD w R M v d)) (hm : mask < 2 ^ 64) (hl : d.soft.length ≤ 9000) :
    Calls Tryz.prog 21 #[.pointer (some ⟨R, 0, none⟩), .int .u64 (mask : Int)] w fun ev w' => ev = .returned (.tuple #[]) ∧ Mod (Ft R M v) w w' ∧ IsD w' R M (.slice none 0 0) { d with firm := stl mask d.firm d.soft 0, soft := [], down := true } := by
  go_enter Tryz.func21, Tryz.ntmps21
  go_wp2_with fail
  refine (settle_c w R M v d mask h hm hl).mono ?_
  rintro e w3 ⟨rfl, hm2, hd⟩
  have HM := Lib.hid hm2
  have HD := Lib.hid hd
  have c3 := hd.c3
  have f3 := hd.fz 3
  clear hm2 hd
  go_wp2_with fail
  go_end0
  have hM := mod_set w3 R 3 (.bool true)
  exact ⟨rfl, HM.out.tr (hM.mono (fun _ _ h => .inl h)), HD.out.put hM (HD.out.setCell 3 _ _ rfl) rfl rfl⟩
set_option maxHeartbeats 1000000 in
set_option maxRecDepth 100000 in
theorem new_c (w : World) (n : Int) (h1 : 1 ≤ n) (h2 : n ≤ 2048) :
    Calls Tryz.prog 8 #[.int .i64 n] w fun ev w' => ∃ R M, w.heap.size ≤ R ∧ w.heap.size ≤ M ∧ ev = .returned (.tuple #[.pointer (some ⟨R, 0, none⟩), .nilIface]) ∧ Below w.heap.size w w' ∧ IsD w' R M (.slice none 0 0) ⟨n, fun _ => pz, [], false, -1⟩ := by
  have c1 : decide (n < 1) = false := decide_eq_false (by omega)
  have c2 : decide (n > 2048) = false := decide_eq_false (by omega)
  have hmm := @run_makeMap Tryz.prog
  clear h1 h2
  go_enter Tryz.func8, Tryz.ntmps8
  go_wp2_with fail
  go_ret2
  have hb : Below w.heap.size w (w.alloc (Obj.map #[] 0)) := (Below.refl _ _).alloc (Nat.le_refl _) _
  refine ⟨w.heap.size + 1, w.heap.size, by omega, Nat.le_refl _, rfl, hb.alloc hb.size _, ?_, ?_, Kd.R_nil _ _ _ _ _⟩
  · have z := heap_alloc_last (w.alloc (Obj.map #[] 0)) (Obj.cells #[.int .i64 n, .map (some w.heap.size), .slice none 0 0, .bool false, .int .i64 (-1)] 78 (0, 0))
    have e : (w.alloc (Obj.map #[] 0)).heap.size = w.heap.size + 1 := by simp
    rw [e] at z
    exact z
  · refine ⟨#[], 0, ?_, fun e he => by simp at he, fun k _ => rfl, fun i j e f he => by simp at he⟩
    rw [heap_alloc_old _ _ (by simp)]
    exact heap_alloc_new _ _
end Go.Proofs.YtaodgnladjafoaaGreatDoor.Dk
