/- Words that the proof uses. -/
import Derived.Test.YtaodgnladjafoaaGreatDoorMani01V
import Derived.Stop.BytesEq
import Derived.Deep.MidRow
import Derived.Deep.WholeRow
import Derived.Deep.RegionHeld3
set_option linter.unusedVariables false
set_option linter.unusedSimpArgs false
namespace Go.Proofs.YtaodgnladjafoaaGreatDoor.Mni
open Go.RowKit Go.Proofs.YtaodgnladjafoaaGreatDoorW.PrintWords Go.Proofs.YtaodgnladjafoaaGreatDoorW.PrintLast Go.Proofs.YtaodgnladjafoaaGreatDoorW.PrintMore Go.Proofs.YtaodgnladjafoaaGreatDoor.Md Go.Proofs.YtaodgnladjafoaaGreatDoor.QStoreLasts
theorem man_one (o : Loc) (m : Man) : (o.a m).all (·.oneCell') = true := by simp [Loc.a, Value.oneCell']
theorem run_loadM (w : World) (b : Nat) (o : Loc) (m : Man) (h : w.heap[b]? = some (Obj.cells (o.a m) 43 (0, 0))) : (Instr.loadAt 43 (.pointer (some ⟨b, 0, none⟩))).run Tryz.prog w = .ok (.agg (o.a m)) w := by
  simp only [Instr.loadAt, Instr.sureAddr, Sem.run_bind, Sem.run_pure, Result.andThen_ok]
  exact run_loadVar_row w b 43 43 (o.a m) (0, 0) _ h Tryz.underlying43 rfl (by kernel_rfl)
theorem exec_loadM {ρ : Operand → Value} {oo : Oper} {x : Operand} {W : World} {b : Nat} {o : Loc} {m : Man} (ho : oo.op = .load 43 x) (hx : ρ x = .pointer (some ⟨b, 0, none⟩)) (hp : W.heap[b]? = some (Obj.cells (o.a m) 43 (0, 0))) : (execOp ρ oo).run Tryz.prog W = .ok (.value (.agg (o.a m))) W := by
  unfold execOp; simp only [ho, hx, run_loadM W b o m hp, Sem.run_bind, Sem.run_pure, Result.andThen_ok]
theorem sizeM : (Tryz.prog.info? 43).map (·.size) = some 4 := by kernel_rfl
section
variable {ops : Array Oper} {rest : List Oper} {oo : Oper} {a : Go.Act} {w : World} {Q : Exit → Go.Act → World → Prop}
theorem wl_loadM (b : Nat) (o : Loc) (m : Man) (hp : w.heap[b]? = some (Obj.cells (o.a m) 43 (0, 0))) (hgd : oo.guard = none) (p_ : Operand) (ho : oo.op = .load 43 p_) (hx : a.eval p_ = .pointer (some ⟨b, 0, none⟩))
    (h : wpList Tryz.prog ops Q rest (a.put oo.dst (.agg (o.a m))) w) : wpList Tryz.prog ops Q (oo :: rest) a w :=
  Kd.event_run hgd (exec_loadM ho hx hp) h
theorem wg_loadM (b : Nat) (o : Loc) (m : Man) (hp : w.heap[b]? = some (Obj.cells (o.a m) 43 (0, 0))) (hw : Region.wanted oo (yielded ops a.tmps) = true) (p_ : Operand) (ho : oo.op = .load 43 p_) (hx : a.eval p_ = .pointer (some ⟨b, 0, none⟩))
    (h : wpList Tryz.prog ops Q rest (a.put oo.dst (.agg (o.a m))) w) : wpList Tryz.prog ops Q (oo :: rest) a w := by
  have hrun := exec_loadM (ρ := a.eval) ho hx hp
  refine BigFrame.wpList_want hw fun K hK => ?_
  unfold Oper.wp
  rw [hrun]
  exact hK _ _ h
theorem wl_storeM (b : Nat) (cs0 : Array Value) (hcs : cs0.size = 4) (o : Loc) (m : Man) (hp : w.heap[b]? = some (Obj.cells cs0 43 (0, 0))) (hgd : oo.guard = none) (p_ q_ : Operand) (ho : oo.op = .store 43 p_ q_) (hx : a.eval p_ = .pointer (some ⟨b, 0, none⟩)) (hy : a.eval q_ = .agg (o.a m))
    (h : wpList Tryz.prog ops Q rest (a.put oo.dst undef) (w.setRow b (o.a m))) : wpList Tryz.prog ops Q (oo :: rest) a w :=
  wpList_plain hgd fun K hK => by
    have hrun : (Instr.storeAt 43 (.pointer (some ⟨b, 0, none⟩)) (.agg (o.a m))).run Tryz.prog w = .ok () (w.setRow b (o.a m)) := by
      simp only [Instr.storeAt, Instr.sureAddr, Sem.run_bind, Sem.run_pure, Result.andThen_ok]
      exact run_storeVar_row w b 43 43 cs0 (o.a m) hp sizeM (by rw [hcs]; rfl) (man_one o m)
    unfold Oper.wp execOp
    simp only [ho, hx, hy, Sem.run_bind, hrun, Result.andThen_ok]
    exact hK _ _ h
theorem wl_storeMn {W : World} (cs0 : Array Value) (hcs : cs0.size = 4) (o : Loc) (m : Man) (hgd : oo.guard = none) (p_ q_ : Operand) (ho : oo.op = .store 43 p_ q_) (hx : a.eval p_ = .pointer (some ⟨W.heap.size, 0, none⟩)) (hy : a.eval q_ = .agg (o.a m))
    (h : wpList Tryz.prog ops Q rest (a.put oo.dst undef) (W.alloc (Obj.cells (o.a m) 43 (0, 0)))) : wpList Tryz.prog ops Q (oo :: rest) a (W.alloc (Obj.cells cs0 43 (0, 0))) := by
  refine wl_storeM W.heap.size cs0 hcs o m (heap_alloc_last _ _) hgd p_ q_ ho hx hy ?_
  rw [World.setRow_alloc_new]
  exact h
theorem wl_allocM (hgd : oo.guard = none) (ho : oo.op = .alloc 43) (h : wpList Tryz.prog ops Q rest (a.put oo.dst (.pointer (some ⟨w.heap.size, 0, none⟩))) (w.alloc (Obj.cells #[.slice none 0 0, .slice none 0 0, .int .i64 0, .slice none 0 0] 43 (0, 0)))) : wpList Tryz.prog ops Q (oo :: rest) a w :=
  Kd.event_run hgd (by unfold execOp; simp only [ho]; kernel_rfl) h
end
theorem box_cells {w : World} {X : Nat} {o : Loc} {m : Man} {t : TypeId} (h : Hid (w.heap[X]? = some (Obj.cells (o.a m) t (0, 0)))) : w.cell? ⟨X, 0, none⟩ = some (.slice o.p0 m.refs.length o.c0) ∧ w.cell? ⟨X, 1, none⟩ = some (.slice o.p1 m.stack.length o.c1) ∧ w.cell? ⟨X, 2, none⟩ = some (.int .i64 m.upper) ∧ w.cell? ⟨X, 3, none⟩ = some (.slice o.p3 m.snaps.length o.c3) :=
  ⟨Err.cell_of_blk h.out 0, Err.cell_of_blk h.out 1, Err.cell_of_blk h.out 2, Err.cell_of_blk h.out 3⟩
theorem infoL : (Tryz.prog.info? 4).map (fun i => (i.zero, i.size, i.bytes)) = some (some (.bool false), 1, 1) := by kernel_rfl
theorem row_on {α : Type} {d : Kd α} {e base : Nat} {w w' : World} {v : Value} {xs : List α} {S : Nat → Prop} (hE : d.E = []) (h : d.R e w base (fun _ => True) v xs) (k : Mod S w w') (hn : ∀ b, v.ownBlock = some b → ¬ S b) : d.R e w' base (fun _ => True) v xs :=
  Kd.R_mono (Kd.R_step (Kd.R_tight hE h) (fun b hb hlt => k.block b hlt (hn b hb.symm))) (fun _ _ => trivial)
theorem stacks_P (o : Loc) (m : Man) (w : World) (P : Nat → Prop) (h : Hid (At w o m)) (hs : Kd.F (Kd.int .i64) w P o.p1 m.stack.length m.stack) (hn : Kd.F lk w P o.p3 m.snaps.length m.snaps) (hm : m.snaps.length ≤ 1000000) :
    Calls Tryz.prog 81 #[.agg (o.a m)] w fun e w' => ∃ A c, e = .returned (.slice A (stacks m).length c) ∧ (stacks m).length ≤ c ∧ Kd.F lk w' (fun k => P k ∨ w.heap.size ≤ k) A (stacks m).length (stacks m) ∧ Below w.heap.size w w' := by
  refine (mani_Manifest_stacks.calls o.p0 o.c0 m.refs P o.p1 o.c1 m.stack m.upper P o.p3 o.c3 m.snaps (stacks m) w h.out.r h.out.rc (Kd.V_mk h.out.sc hs) (Kd.V_mk h.out.nc hn) (stacks_f m hm)).mono ?_
  rintro e w' ⟨v, rfl, hN, hd⟩
  obtain ⟨A, c, rfl⟩ := Kd.N_slice hN
  obtain ⟨h1, h2, h3⟩ := Kd.N_reads' hN
  exact ⟨A, c, rfl, by simpa [← h1] using h2, Kd.F_mono (Kd.N_F hN) (fun k hk => hk.elim (fun h => h.elim .inl .inl) .inr), hd⟩
def markL (n : Nat) : List Int → List Int → List Bool → Option (List Bool)
  | _, [], out => some out
  | met, k :: l, out => if k < 0 ∨ (n : Int) ≤ k ∨ k ∈ met then none else markL n (k :: met) l (out.set k.toNat true)
def markS (n : Nat) : List (List Int) → List Bool → Option (List Bool)
  | [], out => some out
  | l :: ls, out => (markL n [] l out).bind (markS n ls)
def named (m : Man) : Option (List Bool) := markS m.refs.length (stacks m) (List.replicate m.refs.length false)
structure Nm (W wr : World) (o : Loc) (m : Man) (X : Nat) (u : Value) (out : List Bool) (A : Option Addr) (N a b c : Nat) : Prop where
  bel : Below W.heap.size W wr
  row : Kd.bool.R 4 wr W.heap.size (fun _ => True) u out
  len : out.length = m.refs.length
  box : wr.heap[X]? = some (Obj.cells (o.a m) 43 (0, 0))
  st : Kd.F lk wr (fun k => (k < a ∨ b ≤ k) ∧ k < c) A N (stacks m)
  ua : ∀ k, u.ownBlock = some k → a ≤ k ∧ k < b
  cs : c ≤ wr.heap.size
theorem Nm.on {W wr w1 : World} {o : Loc} {m : Man} {X : Nat} {u : Value} {out : List Bool} {A : Option Addr} {N a b c : Nat} (h : Nm W wr o m X u out A N a b c) (k : Below wr.heap.size wr w1) : Nm W w1 o m X u out A N a b c :=
  { bel := h.bel.trans (k.mono h.bel.size), row := Kd.R_below h.row k, len := h.len, box := (k.block _ (Err.lt_of_block h.box)).trans h.box, st := Kd.F_below h.st k, ua := h.ua, cs := Nat.le_trans h.cs k.size }
theorem Nm.map {W wr w1 : World} {o : Loc} {m : Man} {X M : Nat} {u : Value} {out : List Bool} {A : Option Addr} {N a b c : Nat} (h : Nm W wr o m X u out A N a b c) (k : Mod (· = M) wr w1) (hM : c ≤ M) (hW : W.heap.size ≤ M) (hX : X ≠ M) (hb : b ≤ c) : Nm W w1 o m X u out A N a b c :=
  { bel := h.bel.trans (k.below h.bel.size (fun i hi (e : i = M) => by omega)), row := row_on rfl h.row k (fun i hi (e : i = M) => by have := (h.ua i hi).2; omega), len := h.len, box := k.blk h.box (fun e => hX e), st := Kd.F_step h.st (fun i hi hlt => k.block i hlt (fun (e : i = M) => by omega)), ua := h.ua, cs := Nat.le_trans h.cs k.size }
theorem Nm.put {W wr : World} {o : Loc} {m : Man} {X g cap n : Nat} {out : List Bool} {A : Option Addr} {N a b c : Nat} (h : Nm W wr o m X (.slice (some ⟨g, 0, none⟩) n cap) out A N a b c) (i : Nat) (hW : W.heap.size ≤ a) : Nm W (wr.setCell ⟨g, i, none⟩ (.bool true)) o m X (.slice (some ⟨g, 0, none⟩) n cap) (out.set i true) A N a b c := by
  have hg := h.ua g rfl
  have k : Mod (· = g) wr (wr.setCell ⟨g, i, none⟩ (.bool true)) := (Mod.refl (· = g) wr).set ⟨g, i, none⟩ _ (.inl rfl)
  have hr : Kd.bool.R 4 (wr.setCell ⟨g, i, none⟩ (.bool true)) W.heap.size (fun _ => True) (.slice (some ⟨g, 0, none⟩) n cap) (out.set i true) := Kd.R_putn h.row (i : Int) true
  refine { bel := h.bel.trans (k.below h.bel.size (fun i hi (e : i = g) => by omega)), row := hr, len := by rw [List.length_set]; exact h.len, box := k.blk h.box (fun (e : X = g) => ?_), st := Kd.F_step h.st (fun i hi hlt => k.block i hlt (fun (e : i = g) => by omega)), ua := h.ua, cs := Nat.le_trans h.cs k.size }
  obtain ⟨cells, hc⟩ := Kd.R_typed h.row g rfl
  rw [← e, h.box] at hc
  simp at hc
theorem grown_none {w w1 : World} (h : w.grownBy w1 none) : Below w.heap.size w w1 := pw_below_grown (Below.refl _ _) none (Nat.le_refl _) h (fun k e => by cases e)
theorem F_map {α : Type} {d : Kd α} {wr w1 : World} {A : Option Addr} {n a b c M : Nat} {xs : List α} (h : Kd.F d wr (fun k => (k < a ∨ b ≤ k) ∧ k < c) A n xs) (k : Mod (· = M) wr w1) (hM : c ≤ M) : Kd.F d w1 (fun k => (k < a ∨ b ≤ k) ∧ k < c) A n xs :=
  Kd.F_step h (fun i hi hlt => k.block i hlt (fun (e : i = M) => by omega))
theorem F_put {α : Type} {d : Kd α} {wr w1 : World} {A : Option Addr} {n a b c g : Nat} {xs : List α} (h : Kd.F d wr (fun k => (k < a ∨ b ≤ k) ∧ k < c) A n xs) (k : Mod (· = g) wr w1) (hg : a ≤ g ∧ g < b) : Kd.F d w1 (fun k => (k < a ∨ b ≤ k) ∧ k < c) A n xs :=
  Kd.F_step h (fun i hi hlt => k.block i hlt (fun (e : i = g) => by omega))
theorem F_list {w : World} {ok : Nat → Prop} {A : Option Addr} {N : Nat} {ls : List (List Int)} (h : Kd.F lk w ok A N ls) (j : Nat) (hj : j < ls.length) (hN : ls.length = N) : ∃ ad A0 c0, A = some ad ∧ w.cell? (ad.add j) = some (.slice A0 ls[j].length c0) ∧ ls[j].length ≤ c0 ∧ Kd.F (Kd.int .i64) w ok A0 ls[j].length ls[j] := by
  obtain ⟨ad, cs, e, hlen, hF, hcell, _⟩ := Kd.F_get h ([] : List Int) (j : Int) (by omega) (by omega)
  have hx : ls.getD ((j : Int).toNat) [] = ls[j] := by simp [List.getD_eq_getElem?_getD, List.getElem?_eq_getElem hj]
  rw [hx] at hF
  obtain ⟨A0, c0, rfl, hl, hC⟩ := Foot.now hF
  refine ⟨ad, A0, c0, e, by have z := hcell 0 _ rfl; rw [show (j : Int).toNat * lk.sz + 0 = j from by show (j : Int).toNat * 1 + 0 = j; simp] at z; exact z, hl, ?_⟩
  intro W2 h2
  obtain ⟨A1, c1, e1, _, hC1⟩ := hF W2 h2
  simp only [List.cons.injEq, Value.slice.injEq, and_true] at e1
  rw [e1.1]; exact hC1
theorem rd_get (l : List Int) (j : Nat) (h : j < l.length) : rd l (j : Int) = l[j] := by
  unfold rd
  simp [List.getD_eq_getElem?_getD, List.getElem?_eq_getElem h]
set_option maxHeartbeats 4000000 in
set_option maxRecDepth 100000 in
theorem named_c (o : Loc) (m : Man) (w : World) (h : Hid (At w o m)) (hm : m.snaps.length ≤ 1000000) (hr : m.refs.length ≤ 1000000) :
    Calls Tryz.prog 53 #[.agg (o.a m)] w fun e w' => ∃ A c, e = .returned (.tuple #[.slice A ((named m).getD []).length c, .bool (named m).isSome]) ∧ ((named m).getD []).length ≤ c ∧ Kd.C Kd.bool w' A ((named m).getD []).length ((named m).getD []) ∧ Below w.heap.size w w' := by
  obtain ⟨T, hT⟩ : ∃ T, named m = T := ⟨_, rfl⟩
  have HT := Lib.hid hT
  rw [hT]
  clear hT
  have hd0 : Below w.heap.size w (w.alloc (Obj.cells (o.a m) 43 (0, 0))) := (Below.refl _ _).alloc (Nat.le_refl _) _
  have H1 := Lib.hid (h.out.on hd0)
  have HB1 := Lib.hid hd0
  have HX1 := Lib.hid (heap_alloc_last w (Obj.cells (o.a m) 43 (0, 0)))
  go_enter Tryz.func53, Tryz.ntmps53
  go_upto_region 1 with fail
  obtain ⟨X, hX⟩ : ∃ X, w.heap.size = X := ⟨_, rfl⟩
  rw [hX] at HX1
  simp only [hX]
  generalize hw1 : w.alloc (Obj.cells (o.a m) 43 (0, 0)) = w1 at *
  obtain ⟨c0, _, _, _⟩ := box_cells HX1
  go_upto_region 2 with (first
    | (refine Kd.R_make Kd.bool (w0 := w) w.heap.size 4 rfl (N := 13) rfl 49 _ _ rfl (m.refs.length : Int) rfl rfl Tryz.underlying49 (.bool false) 1 infoL rfl (by decide) (by decide) false (ok := fun _ => True) (okp := fun _ => True) rfl (fun _ hk => hk) trivial (by omega) (by omega) HB1.out HB1.out.size ?_
       intro u w2 hrow hb hg hnew))
  rw [Int.toNat_natCast] at hrow
  obtain ⟨b1, hb1, hb2⟩ := hnew
  have hb3 := Kd.R_lt hrow b1 hb1
  have hua : ∀ k, u.ownBlock = some k → w.heap.size ≤ k ∧ k < w2.heap.size := fun k hk => by rw [hb1] at hk; cases hk; have := HB1.out.size; exact ⟨by omega, hb3⟩
  obtain ⟨U, cU, rfl⟩ := Kd.R_slice hrow
  rw [List.length_replicate] at hrow hua ⊢
  have hd2 : Below w1.heap.size w1 w2 := grown_none hg
  have HX2 := blk_to HX1 hd2
  have HB2 := Lib.hid hb
  have HA2 := Lib.hid (h.out.on hb)
  have HR2 := Lib.hid hrow
  have HUA := Lib.hid hua
  have HS2 := Lib.hid (Kd.F_below (Kd.F_mono (Kd.F_bound (foot_int h.out.s)) (fun k hk => hk.2)) hb)
  have HN2 := Lib.hid (Kd.F_below (Kd.F_mono (Kd.F_bound (foot_lk h.out.n)) (fun k hk => hk.2)) hb)
  clear hrow hb hg hb1 hb2 hb3 hua HX1 HB1 H1 h hd2 c0 hd0 hw1
  go_wp2_with (first | (refine wl_loadM X o m HX2.out rfl _ rfl rfl ?_))
  refine (stacks_P o m w2 (fun k => k < w.heap.size) HA2 HS2.out HN2.out hm).mono ?_
  rintro e w3 ⟨A, cA, rfl, hcA, hF, hd⟩
  obtain ⟨N, hN⟩ : ∃ N, (stacks m).length = N := ⟨_, rfl⟩
  have hNs : N ≤ 1000002 := by rw [← hN]; unfold stacks; simp only [List.length_cons, List.length_append]; split <;> simp <;> omega
  rw [hN] at hcA hF ⊢
  have HNm := Lib.hid (show Nm w w3 o m X (.slice U m.refs.length cU) (List.replicate m.refs.length false) A N w.heap.size w2.heap.size w3.heap.size from
    { bel := HB2.out.trans (hd.mono HB2.out.size), row := Kd.R_below HR2.out hd, len := List.length_replicate .., box := (blk_to HX2 hd).out, st := Kd.F_bound hF, ua := HUA.out, cs := Nat.le_refl _ })
  have hbc := hd.size
  have hab := HB2.out.size
  have hXc := Err.lt_of_block HNm.out.box
  have HNN := Lib.hid hN
  obtain ⟨sa, hsa⟩ : ∃ s, w.heap.size = s := ⟨_, rfl⟩
  obtain ⟨sb, hsb⟩ : ∃ s, w2.heap.size = s := ⟨_, rfl⟩
  obtain ⟨sc, hsc⟩ : ∃ s, w3.heap.size = s := ⟨_, rfl⟩
  rw [hsa, hsb, hsc] at HNm
  rw [hsb, hsc] at hbc
  rw [hsa, hsb] at hab
  rw [hsc] at hXc
  have HSA := Lib.hid hsa
  clear hsa hsb hsc hF hd hN HX2 HB2 HA2 HR2 HUA HS2 HN2 hX
  go_wp2_with fail
  go_loopg [17] N (fun kq v17 wr => ∃ (j : Nat) (out : List Bool), v17 = .int .i64 (j : Int) ∧ kq + j = N ∧ Hid (Nm w wr o m X (.slice U m.refs.length cU) out A N sa sb sc) ∧ Hid (markS m.refs.length ((stacks m).drop j) out = T))
  case atStart => exact ⟨0, _, rfl, by omega, HNm, HT⟩
  case round =>
    clear HNm HT
    obtain ⟨j, out, rfl, hk, HNm, HT⟩ := hrel
    cases gk with
    | zero =>
      have hj : j = N := by omega
      have c1 : decide ((j : Int) < (N : Int)) = false := decide_eq_false (by omega)
      have c1b : decide (j < N) = false := decide_eq_false (by omega)
      obtain rfl : T = some out := by rw [← HT.out, List.drop_eq_nil_of_le (by rw [HNN.out]; omega)]; rfl
      clear HT hk hj
      go_wp2_with fail
      go_ret2
      obtain ⟨A1, c1, e1, h1, h2⟩ := Kd.R_reads HNm.out.row
      rw [HNm.out.len] at e1 h1
      refine ⟨A1, c1, ?_, by rw [show (some out).getD [] = out from rfl, HNm.out.len]; exact h1, h2, HNm.out.bel⟩
      rw [show (some out).getD [] = out from rfl, HNm.out.len, e1]
      rfl
    | succ k1 =>
      have hj : j < N := by omega
      have hjl : j < (stacks m).length := by rw [HNN.out]; exact hj
      have c1 : decide ((j : Int) < (N : Int)) = true := decide_eq_true (by omega)
      have c1b : decide (j < N) = true := decide_eq_true hj
      have p1 : (0 ≤ (j : Int)) = True := eq_true (by omega)
      have p2 : ((j : Int) < (N : Int)) = True := eq_true (by omega)
      have q5 : IntKind.i64.wrap ((j : Int) + 1) = (j : Int) + 1 := IntWalk.i64_in _ (by omega)
      obtain ⟨ad, A0, c0, rfl, hcell, hlc, hF⟩ := F_list HNm.out.st j hjl HNN.out
      obtain ⟨l, hl⟩ : ∃ l, (stacks m)[j] = l := ⟨_, rfl⟩
      rw [hl] at hcell hlc hF
      have HT2 := Lib.hid (show (markL m.refs.length [] l out).bind (markS m.refs.length ((stacks m).drop (j + 1))) = T by
        rw [← HT.out, List.drop_eq_getElem_cons hjl, hl]
        rfl)
      obtain ⟨q, hq⟩ : ∃ q, l.length = q := ⟨_, rfl⟩
      rw [hq] at hcell hlc hF
      have HQ := Lib.hid hq
      have HF := Lib.hid hF
      have hq0 := (Kd.F_now hF).2.1
      clear hl hq hF HT
      generalize wr = w4 at *
      have hmm := @run_makeMap Tryz.prog
      go_wp2_with fail
      clear hmm
      have hd5 : Below w4.heap.size w4 (w4.alloc (Obj.map #[] 0)) := (Below.refl _ _).alloc (Nat.le_refl _) _
      have HM5 := Lib.hid (MapAt.new w4)
      have HNm5 := Lib.hid (HNm.out.on hd5)
      have HF5 := Lib.hid (Kd.F_below HF.out hd5)
      have hcM := HNm.out.cs
      have hWM := HNm.out.bel.size
      obtain ⟨M, hM⟩ : ∃ M, w4.heap.size = M := ⟨_, rfl⟩
      rw [hM] at HM5 hcM hWM
      (try simp only [hM])
      generalize (w4.alloc (Obj.map #[] 0)) = w5 at *
      clear hd5 HNm HF hM hcell
      go_loopg [24] q (fun kq v24 wr => ∃ (i : Nat) (out : List Bool) (met : List Int) (Fm : Int → Bool), v24 = .int .i64 (i : Int) ∧ kq + i = q ∧ Hid (Nm w wr o m X (.slice U m.refs.length cU) out (some ad) N sa sb sc) ∧ Hid (Kd.F (Kd.int .i64) wr (fun k => (k < sa ∨ sb ≤ k) ∧ k < sc) A0 q l) ∧ Hid (MapAt wr M Fm) ∧ Hid (∀ k, Fm k = true ↔ k ∈ met) ∧ Hid ((markL m.refs.length met (l.drop i) out).bind (markS m.refs.length ((stacks m).drop (j + 1))) = T))
      case atStart => exact ⟨0, out, [], fun _ => false, rfl, by omega, HNm5, HF5, HM5, Lib.hid (by simp), HT2⟩
      case round =>
        clear HNm5 HF5 HM5 HT2
        obtain ⟨i, out, met, Fm, rfl, hk2, HNm, HF, HM, HFm, HT⟩ := hrel
        generalize wr = w6 at *
        cases gk with
        | zero =>
          have hi : i = q := by omega
          have d1 : decide ((i : Int) < (q : Int)) = false := decide_eq_false (by omega)
          have d1b : decide (i < q) = false := decide_eq_false (by omega)
          have HT3 := Lib.hid (show markS m.refs.length ((stacks m).drop (j + 1)) out = T by
            rw [← HT.out, show l.drop i = [] from List.drop_eq_nil_of_le (by rw [HQ.out]; omega)]
            rfl)
          clear HT hk2 hi HF HM HFm
          go_wp2_with fail
          go_roundg k1
          case measure => exact Nat.lt_succ_self _
          case rel => exact ⟨j + 1, out, by simp, by omega, HNm, HT3⟩
        | succ k2 =>
          have hi : i < q := by omega
          have hil : i < l.length := by rw [HQ.out]; exact hi
          have d1 : decide ((i : Int) < (q : Int)) = true := decide_eq_true (by omega)
          have d1b : decide (i < q) = true := decide_eq_true hi
          have p3 : (0 ≤ (i : Int)) = True := eq_true (by omega)
          have p4 : ((i : Int) < (q : Int)) = True := eq_true (by omega)
          have q6 : IntKind.i64.wrap ((i : Int) + 1) = (i : Int) + 1 := IntWalk.i64_in _ (by omega)
          obtain ⟨ad2, rfl, hcell⟩ := Kd.at_int (Kd.F_now HF.out) (i : Int) (by omega) (by omega)
          rw [rd_get l i hil, Int.toNat_natCast] at hcell
          obtain ⟨x, hx⟩ : ∃ x, l[i] = x := ⟨_, rfl⟩
          rw [hx] at hcell
          have HT3 := Lib.hid (show (if x < 0 ∨ (m.refs.length : Int) ≤ x ∨ x ∈ met then none else markL m.refs.length (x :: met) (l.drop (i + 1)) (out.set x.toNat true)).bind (markS m.refs.length ((stacks m).drop (j + 1))) = T by
            rw [← HT.out, List.drop_eq_getElem_cons hil, hx]
            rfl)
          obtain ⟨b0, _, _, _⟩ := box_cells (Lib.hid HNm.out.box)
          clear hx HT
          by_cases h0 : x < 0
          · have f0 : decide (x < 0) = true := decide_eq_true h0
            obtain rfl : T = none := by rw [← HT3.out, if_pos (.inl h0)]; rfl
            clear HT3 h0
            go_wp2_with fail
            go_ret2
            exact ⟨none, 0, rfl, Nat.le_refl _, Kd.C_nil _ _, HNm.out.bel⟩
          · have f0 : decide (x < 0) = false := decide_eq_false h0
            by_cases h1 : (m.refs.length : Int) ≤ x
            · have f1 : decide (x ≥ (m.refs.length : Int)) = true := decide_eq_true h1
              have f1b : decide ((m.refs.length : Int) ≤ x) = true := decide_eq_true h1
              obtain rfl : T = none := by rw [← HT3.out, if_pos (.inr (.inl h1))]; rfl
              clear HT3 h0 h1
              go_wp2_with fail
              go_ret2
              exact ⟨none, 0, rfl, Nat.le_refl _, Kd.C_nil _ _, HNm.out.bel⟩
            · have f1 : decide (x ≥ (m.refs.length : Int)) = false := decide_eq_false h1
              have f1b : decide ((m.refs.length : Int) ≤ x) = false := decide_eq_false h1
              by_cases h2 : x ∈ met
              · have f2 : Fm x = true := (HFm.out x).2 h2
                obtain rfl : T = none := by rw [← HT3.out, if_pos (.inr (.inr h2))]; rfl
                clear HT3 h0 h1 h2
                go_wp2_with (first | (refine wg_lookB M Fm x HM.out (by rfl) _ _ rfl rfl rfl ?_; rw [f2]))
                go_ret2
                exact ⟨none, 0, rfl, Nat.le_refl _, Kd.C_nil _ _, HNm.out.bel⟩
              · have f2 : Fm x = false := by
                  cases e : Fm x with
                  | false => rfl
                  | true => exact absurd ((HFm.out x).1 e) h2
                have HT4 := Lib.hid (show (markL m.refs.length (x :: met) (l.drop (i + 1)) (out.set x.toNat true)).bind (markS m.refs.length ((stacks m).drop (j + 1))) = T by
                  rw [← HT3.out, if_neg (by rintro (h | h | h); exact h0 h; exact h1 h; exact h2 h)])
                have p5 : (0 ≤ x) = True := eq_true (by omega)
                have p6 : (x < (m.refs.length : Int)) = True := eq_true (by omega)
                obtain ⟨g, cap, eg, _, _, _⟩ := Kd.R_form HNm.out.row (by rw [HNm.out.len]; omega)
                have e1 : U = some ⟨g, 0, none⟩ := by injection eg
                clear eg
                subst e1
                obtain ⟨hcl, hfz⟩ := Kd.R_celln false HNm.out.row x (by omega) (by omega)
                have hgm := HNm.out.ua g rfl
                have hSA := HSA.out
                have HNm7 := Lib.hid (HNm.out.put x.toNat (by omega))
                have km : Mod (· = g) w6 (w6.setCell ⟨g, x.toNat, none⟩ (.bool true)) := (Mod.refl (· = g) w6).set ⟨g, x.toNat, none⟩ _ (.inl rfl)
                have HF7 := Lib.hid (F_put HF.out km hgm)
                have HM7 := Lib.hid (HM.out.mod km (fun (e : M = g) => by omega))
                have HFm7 := Lib.hid (show ∀ k, upd Fm x true k = true ↔ k ∈ x :: met from fun k => by
                  unfold upd
                  by_cases e : k = x
                  · simp [e]
                  · rw [if_neg e, HFm.out k]; simp [e])
                clear HT3 h0 h1 h2 km HNm HF hSA
                go_wp2_with (first
                  | (refine wg_lookB M Fm x HM.out (by rfl) _ _ rfl rfl rfl ?_; rw [f2])
                  | (refine wl_updB M Fm x true HM7.out rfl _ _ _ rfl rfl rfl rfl ?_
                     intro w8 hmap hmod))
                have HNm8 := Lib.hid (HNm7.out.map hmod hcM hWM (by omega) hbc)
                have HF8 := Lib.hid (F_map HF7.out hmod hcM)
                have HM8 := Lib.hid hmap
                clear hmap hmod HNm7 HF7 HM7 HM HFm hcl hfz
                go_roundg k2
                case measure => exact Nat.lt_succ_self _
                case rel => exact ⟨i + 1, _, _, _, by simp, by omega, HNm8, HF8, HM8, HFm7, HT4⟩
end Go.Proofs.YtaodgnladjafoaaGreatDoor.Mni
