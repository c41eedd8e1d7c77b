/- A manifest, as the program has it. -/
import Derived.Test.YtpijilfkmkdghaaDoorMani5
set_option linter.unusedVariables false
set_option linter.unusedSimpArgs false
namespace Go.Proofs.YtpijilfkmkdghaaDoor.Mni
open Go.RowKit Go.Proofs.YtpijilfkmkdghaaDoorW.PrintWords Go.Proofs.YtpijilfkmkdghaaDoorW.PrintLast Go.Proofs.YtpijilfkmkdghaaDoorW.PrintMore Go.Proofs.YtpijilfkmkdghaaDoor.Md Go.Proofs.YtpijilfkmkdghaaDoor.QManiBack
abbrev Rg := S36
abbrev gk : Kd Rg := k36
/-- the document's manifest, in memory -/
structure Arg where
  refs : List Rg
  stack : List Int
  upper : Int
  snaps : List (List Int)
def Arg.m (g : Arg) : Man := ⟨g.refs.map (fun r => ⟨r.f0, r.f1, r.f2⟩), g.stack, g.upper, g.snaps⟩
def Loc.b (o : Loc) (m : Arg) : Array Value := #[.slice o.p0 m.refs.length o.c0, .slice o.p1 m.stack.length o.c1, .int .i64 m.upper, .slice o.p3 m.snaps.length o.c3]
structure At2 (w : World) (o : Loc) (m : Arg) : Prop where
  r : Kd.C gk w o.p0 m.refs.length m.refs
  rc : m.refs.length ≤ o.c0
  s : Kd.C (Kd.int .i64) w o.p1 m.stack.length m.stack
  sc : m.stack.length ≤ o.c1
  n : Kd.C lk w o.p3 m.snaps.length m.snaps
  nc : m.snaps.length ≤ o.c3
theorem At2.on {w w' : World} {o : Loc} {m : Arg} (h : At2 w o m) (k : Below w.heap.size w w') : At2 w' o m :=
  ⟨Kd.C_below h.r k, h.rc, Kd.C_below h.s k, h.sc, Kd.C_below h.n k, h.nc⟩
theorem arg_one (o : Loc) (m : Arg) : (o.b m).all (·.oneCell') = true := by simp [Loc.b, Value.oneCell']
theorem run_loadG (w : World) (b : Nat) (o : Loc) (m : Arg) (h : w.heap[b]? = some (Obj.cells (o.b m) 26 (0, 0))) : (Instr.loadAt 26 (.pointer (some ⟨b, 0, none⟩))).run Tryd.prog w = .ok (.agg (o.b m)) w := by
  simp only [Instr.loadAt, Instr.sureAddr, Sem.run_bind, Sem.run_pure, Result.andThen_ok]
  exact run_loadVar_row w b 26 26 (o.b m) (0, 0) _ h Tryd.underlying26 rfl (by kernel_rfl)
theorem exec_loadG {ρ : Operand → Value} {oo : Oper} {x : Operand} {W : World} {b : Nat} {o : Loc} {m : Arg} (ho : oo.op = .load 26 x) (hx : ρ x = .pointer (some ⟨b, 0, none⟩)) (hp : W.heap[b]? = some (Obj.cells (o.b m) 26 (0, 0))) : (execOp ρ oo).run Tryd.prog W = .ok (.value (.agg (o.b m))) W := by
  unfold execOp; simp only [ho, hx, run_loadG W b o m hp, Sem.run_bind, Sem.run_pure, Result.andThen_ok]
theorem sizeG : (Tryd.prog.info? 26).map (·.size) = some 4 := by kernel_rfl
section
variable {ops : Array Oper} {rest : List Oper} {oo : Oper} {a : Go.Act} {w : World} {Q : Exit → Go.Act → World → Prop}
theorem wl_loadG (b : Nat) (o : Loc) (m : Arg) (hp : w.heap[b]? = some (Obj.cells (o.b m) 26 (0, 0))) (hgd : oo.guard = none) (p_ : Operand) (ho : oo.op = .load 26 p_) (hx : a.eval p_ = .pointer (some ⟨b, 0, none⟩))
    (h : wpList Tryd.prog ops Q rest (a.put oo.dst (.agg (o.b m))) w) : wpList Tryd.prog ops Q (oo :: rest) a w :=
  Kd.event_run hgd (exec_loadG ho hx hp) h
theorem wg_loadG (b : Nat) (o : Loc) (m : Arg) (hp : w.heap[b]? = some (Obj.cells (o.b m) 26 (0, 0))) (hw : Region.wanted oo (yielded ops a.tmps) = true) (p_ : Operand) (ho : oo.op = .load 26 p_) (hx : a.eval p_ = .pointer (some ⟨b, 0, none⟩))
    (h : wpList Tryd.prog ops Q rest (a.put oo.dst (.agg (o.b m))) w) : wpList Tryd.prog ops Q (oo :: rest) a w := by
  have hrun := exec_loadG (ρ := a.eval) ho hx hp
  refine BigFrame.wpList_want hw fun K hK => ?_
  unfold Oper.wp
  rw [hrun]
  exact hK _ _ h
theorem wl_storeG (b : Nat) (cs0 : Array Value) (hcs : cs0.size = 4) (o : Loc) (m : Arg) (hp : w.heap[b]? = some (Obj.cells cs0 26 (0, 0))) (hgd : oo.guard = none) (p_ q_ : Operand) (ho : oo.op = .store 26 p_ q_) (hx : a.eval p_ = .pointer (some ⟨b, 0, none⟩)) (hy : a.eval q_ = .agg (o.b m))
    (h : wpList Tryd.prog ops Q rest (a.put oo.dst undef) (w.setRow b (o.b m))) : wpList Tryd.prog ops Q (oo :: rest) a w :=
  wpList_plain hgd fun K hK => by
    have hrun : (Instr.storeAt 26 (.pointer (some ⟨b, 0, none⟩)) (.agg (o.b m))).run Tryd.prog w = .ok () (w.setRow b (o.b m)) := by
      simp only [Instr.storeAt, Instr.sureAddr, Sem.run_bind, Sem.run_pure, Result.andThen_ok]
      exact run_storeVar_row w b 26 26 cs0 (o.b m) hp sizeG (by rw [hcs]; rfl) (arg_one o m)
    unfold Oper.wp execOp
    simp only [ho, hx, hy, Sem.run_bind, hrun, Result.andThen_ok]
    exact hK _ _ h
theorem wl_storeGn {W : World} (cs0 : Array Value) (hcs : cs0.size = 4) (o : Loc) (m : Arg) (hgd : oo.guard = none) (p_ q_ : Operand) (ho : oo.op = .store 26 p_ q_) (hx : a.eval p_ = .pointer (some ⟨W.heap.size, 0, none⟩)) (hy : a.eval q_ = .agg (o.b m))
    (h : wpList Tryd.prog ops Q rest (a.put oo.dst undef) (W.alloc (Obj.cells (o.b m) 26 (0, 0)))) : wpList Tryd.prog ops Q (oo :: rest) a (W.alloc (Obj.cells cs0 26 (0, 0))) := by
  refine wl_storeG W.heap.size cs0 hcs o m (heap_alloc_last _ _) hgd p_ q_ ho hx hy ?_
  rw [World.setRow_alloc_new]
  exact h
theorem wl_allocG (hgd : oo.guard = none) (ho : oo.op = .alloc 26) (h : wpList Tryd.prog ops Q rest (a.put oo.dst (.pointer (some ⟨w.heap.size, 0, none⟩))) (w.alloc (Obj.cells #[.slice none 0 0, .slice none 0 0, .int .i64 0, .slice none 0 0] 26 (0, 0)))) : wpList Tryd.prog ops Q (oo :: rest) a w :=
  Kd.event_run hgd (by unfold execOp; simp only [ho]; kernel_rfl) h
end

theorem arg_cells {w : World} {X : Nat} {o : Loc} {m : Arg} {t : TypeId} (h : Hid (w.heap[X]? = some (Obj.cells (o.b m) t (0, 0)))) : w.cell? ⟨X, 0, none⟩ = some (.slice o.p0 m.refs.length o.c0) ∧ w.cell? ⟨X, 1, none⟩ = some (.slice o.p1 m.stack.length o.c1) ∧ w.cell? ⟨X, 2, none⟩ = some (.int .i64 m.upper) ∧ w.cell? ⟨X, 3, none⟩ = some (.slice o.p3 m.snaps.length o.c3) :=
  ⟨Err.cell_of_blk h.out 0, Err.cell_of_blk h.out 1, Err.cell_of_blk h.out 2, Err.cell_of_blk h.out 3⟩
theorem few_l0 (m : Arg) (hs : m.snaps.length ≤ 20) : ∀ (n j : Nat), j + n = m.snaps.length → ∃ r : Int, shalelaw20_Few.l0 (n + 1) (j : Int) m.refs m.stack m.upper m.snaps = some r ∧ (r = 0 ∨ r = 1) ∧ (r = 1 → ∀ l ∈ m.snaps.drop j, l.length ≤ 20)
  | 0, j, hj => by
    refine ⟨1, ?_, .inr rfl, fun _ l hl => ?_⟩
    · unfold shalelaw20_Few.l0
      rw [if_neg (by omega)]
    · rw [List.drop_eq_nil_of_le (by omega)] at hl; cases hl
  | n + 1, j, hj => by
    have hlt : j < m.snaps.length := by omega
    have e2 : wrap64 ((j : Int) + 1) = ((j + 1 : Nat) : Int) := by unfold wrap64; omega
    unfold shalelaw20_Few.l0
    rw [if_pos (by omega), if_pos (by omega), rd_L1_get m.snaps j hlt, List.drop_eq_getElem_cons hlt]
    by_cases hg : (m.snaps[j].length : Int) > 20
    · exact ⟨0, by rw [if_pos hg], .inl rfl, fun h => by cases h⟩
    · obtain ⟨r, g1, g2, g3⟩ := few_l0 m hs n (j + 1) (by omega)
      refine ⟨r, by rw [if_neg hg, e2]; exact g1, g2, fun h l hl => ?_⟩
      rcases List.mem_cons.1 hl with rfl | hl
      · omega
      · exact g3 h l hl
theorem few_f (m : Arg) : ∃ k r, shalelaw20_Few.f k m.refs m.stack m.upper m.snaps = some r ∧ (r = 0 ∨ r = 1) ∧ (r = 1 → m.refs.length ≤ 80 ∧ m.stack.length ≤ 20 ∧ m.snaps.length ≤ 20 ∧ ∀ l ∈ m.snaps, l.length ≤ 20) := by
  have hj0 : ∀ (k : Nat), shalelaw20_Few.j0 (k + 1) true m.refs m.stack m.upper m.snaps = some 0 := fun k => rfl
  by_cases h1 : (m.refs.length : Int) > 80
  · exact ⟨1, 0, by unfold shalelaw20_Few.f; rw [if_pos h1]; exact hj0 0, .inl rfl, fun h => by cases h⟩
  · by_cases h2 : (m.stack.length : Int) > 20
    · exact ⟨1, 0, by unfold shalelaw20_Few.f; rw [if_neg h1, if_pos h2]; exact hj0 0, .inl rfl, fun h => by cases h⟩
    · by_cases h3 : (m.snaps.length : Int) > 20
      · exact ⟨1, 0, by unfold shalelaw20_Few.f; rw [if_neg h1, if_neg h2, decide_eq_true h3]; exact hj0 0, .inl rfl, fun h => by cases h⟩
      · obtain ⟨r, g1, g2, g3⟩ := few_l0 m (by omega) m.snaps.length 0 (by omega)
        refine ⟨m.snaps.length + 1 + 1, r, ?_, g2, fun h => ⟨by omega, by omega, by omega, g3 h⟩⟩
        unfold shalelaw20_Few.f
        rw [if_neg h1, if_neg h2, decide_eq_false h3]
        exact g1
theorem few_c (o : Loc) (m : Arg) (w : World) (h : Hid (At2 w o m)) :
    Calls Tryd.prog 8 #[.agg (o.b m)] w fun e w' => ∃ r : Int, e = .returned (.int .i64 r) ∧ (r = 0 ∨ r = 1) ∧ (r = 1 → m.refs.length ≤ 80 ∧ m.stack.length ≤ 20 ∧ m.snaps.length ≤ 20 ∧ ∀ l ∈ m.snaps, l.length ≤ 20) ∧ Below w.heap.size w w' := by
  obtain ⟨k, r, hk, h1, h2⟩ := few_f m
  refine (shalelaw20_Few.calls k o.p0 o.c0 m.refs o.p1 o.c1 m.stack m.upper o.p3 o.c3 m.snaps r w h.out.r h.out.rc h.out.s h.out.sc h.out.n h.out.nc hk).mono ?_
  rintro e w' ⟨rfl, hd⟩
  exact ⟨r, rfl, h1, h2, hd⟩
theorem litR (a b c : Int) (W : World) : (Instr.buildSlice 30 1 #[(0, .agg #[.int .i64 a, .int .i64 b, .int .u32 c])]).run Tryd.prog W = .ok (.slice (some ⟨W.heap.size, 0, none⟩) 1 1) (W.alloc (.cells #[.int .i64 a, .int .i64 b, .int .u32 c] 56 (0, 0))) := by kernel_rfl
theorem exec_litR {r : Operand → Value} {o : Oper} {x : Operand} {a b c : Int} (ho : o.op = .buildSlice 30 1 #[(0, x)]) (hx : r x = .agg #[.int .i64 a, .int .i64 b, .int .u32 c]) (W : World) : (execOp r o).run Tryd.prog W = .ok (.value (.slice (some ⟨W.heap.size, 0, none⟩) 1 1)) (W.alloc (.cells #[.int .i64 a, .int .i64 b, .int .u32 c] 56 (0, 0))) := by
  have h2 := litR a b c W
  unfold execOp
  simp only [ho]
  have e : (#[((0 : Nat), x)] : Array (Nat × Operand)).map (fun (y : Nat × Operand) => (y.1, r y.2)) = #[(0, .agg #[.int .i64 a, .int .i64 b, .int .u32 c])] := by simp [hx]
  show (Sem.run _ (do let v ← Instr.buildSlice _ 1 (Array.map _ _); _) _) = _
  rw [e, Sem.run_bind, h2]
  rfl
theorem readsR (w : World) (g : Nat) (p : Rf) (h : w.heap[g]? = some (.cells #[.int .i64 p.f0, .int .i64 p.f1, .int .u32 p.f2] 56 (0, 0))) : ReadsRow (fun (x : Rf) cs => cs = [Value.int .i64 x.f0, .int .i64 x.f1, .int .u32 x.f2]) rk.sz w (some ⟨g, 0, none⟩) 1 [p] := by
  refine ⟨rfl, by decide, fun _ => ⟨⟨g, 0, none⟩, rfl, fun j x hj => ?_⟩⟩
  have hj0 : j = 0 := by
    have := (List.getElem?_eq_some_iff.1 hj).1
    simp at this; exact this
  subst hj0
  cases hj
  refine ⟨[.int .i64 p.f0, .int .i64 p.f1, .int .u32 p.f2], rfl, rfl, fun i u hi => ?_⟩
  have e : (⟨g, 0, none⟩ : Addr).add (0 * rk.sz + i) = ⟨g, i, none⟩ := by
    unfold Addr.add
    by_cases h0 : i = 0
    · subst h0; rfl
    · rw [if_neg (by omega)]; simp
  rw [e, Err.cell_of_blk h i]
  simpa using hi
theorem infoR : (Tryd.prog.info? 56).map (fun i => (i.zero, i.size, i.bytes)) = some (some (.agg #[.int .i64 0, .int .i64 0, .int .u32 0]), 3, 24) := by kernel_rfl
theorem r_sl {α : Type} {d : Kd α} {e base : Nat} {w : World} {ok : Nat → Prop} {v : Value} {xs : List α} (h : d.R e w base ok v xs) : ∃ A m c, v = .slice A m c := by
  obtain ⟨A, c, rfl⟩ := Kd.R_slice h
  exact ⟨_, _, _, rfl⟩
def refOf (r : Rg) : Rf := ⟨r.f0, r.f1, r.f2⟩
structure OfS (W wr : World) (D Z O : Nat) (o : Loc) (g : Arg) (u0 u : Value) (l : List Rf) : Prop where
  bel : Below W.heap.size W wr
  dd : wr.heap[D]? = some (Obj.cells (o.b g) 26 (0, 0))
  zz : ∃ cs, cs.size = 4 ∧ wr.heap[Z]? = some (Obj.cells cs 32 (0, 0))
  oo : wr.heap[O]? = some (Obj.cells #[u0, .slice o.p1 g.stack.length o.c1, .int .i64 g.upper, .slice o.p3 g.snaps.length o.c3] 32 (0, 0))
  row : rk.R 56 wr W.heap.size (fun _ => True) u l
theorem mod_row (W : World) (b : Nat) (cs : Array Value) : Mod (· = b) W (W.setRow b cs) :=
  ⟨rfl, rfl, rfl, by simp, fun k hk hs => by
    show (W.heap.modify b _)[k]? = _
    rw [Array.getElem?_modify, if_neg (fun e => hs e.symm)]⟩
section
variable {W wr w1 : World} {D Z O : Nat} {o : Loc} {g : Arg} {u0 u v1 : Value} {l l2 : List Rf}
theorem OfS.on (h : OfS W wr D Z O o g u0 u l) (k : Below wr.heap.size wr w1) : OfS W w1 D Z O o g u0 u l :=
  ⟨h.bel.trans (k.mono h.bel.size), (k.block _ (Err.lt_of_block h.dd)).trans h.dd, by obtain ⟨cs, h1, h2⟩ := h.zz; exact ⟨cs, h1, (k.block _ (Err.lt_of_block h2)).trans h2⟩, (k.block _ (Err.lt_of_block h.oo)).trans h.oo, Kd.R_below h.row k⟩
/-- behind an append to the row: the new row isn't yet in O -/
theorem OfS.grow (h : OfS W wr D Z O o g u0 u l) (hg : wr.grownBy w1 u.ownBlock) (hb : Below W.heap.size W w1) (hr : rk.R 56 w1 W.heap.size (fun _ => True) v1 l2) : OfS W w1 D Z O o g u0 v1 l2 := by
  have hty : ∀ {b : Nat} {cs : Array Value} {t : TypeId}, wr.heap[b]? = some (Obj.cells cs t (0, 0)) → t ≠ 56 → w1.heap[b]? = some (Obj.cells cs t (0, 0)) := fun {b cs t} hb ht => by
    refine (hg.block b (Err.lt_of_block hb) (fun e => ?_)).trans hb
    obtain ⟨cells, hc⟩ := Kd.R_typed h.row b e.symm
    rw [hb] at hc
    simp at hc
    exact ht hc.2
  obtain ⟨cs, h1, h2⟩ := h.zz
  exact ⟨hb, hty h.dd (by decide), ⟨cs, h1, hty h2 (by decide)⟩, hty h.oo (by decide), hr⟩
/-- the row is stored into O -/
theorem OfS.set (h : OfS W wr D Z O o g u0 u l) (hD : D ≠ O) (hZ : Z ≠ O) (hO : W.heap.size ≤ O) : OfS W (wr.setCell ⟨O, 0, none⟩ u) D Z O o g u u l := by
  have k : Mod (· = O) wr (wr.setCell ⟨O, 0, none⟩ u) := (Mod.refl (· = O) wr).set ⟨O, 0, none⟩ _ (.inl rfl)
  obtain ⟨cs, h1, h2⟩ := h.zz
  refine ⟨h.bel.trans (k.below h.bel.size (fun i hi (e : i = O) => by omega)), k.blk h.dd (fun e => hD e), ⟨cs, h1, k.blk h2 (fun e => hZ e)⟩, by simpa using blk_set h.oo 0 u, row_on (α := Rf) rfl h.row k (fun b hb (e : b = O) => ?_)⟩
  obtain ⟨cells, hc⟩ := Kd.R_typed h.row b hb
  rw [e, h.oo] at hc
  simp at hc
end
theorem of_results (tmps : Array Value) (W : World) (b : Nat) (cs : Array Value) (hs : cs.size = 4) (h4 : tmps.getD 2 undef = .pointer (some ⟨b, 0, none⟩)) (h : W.heap[b]? = some (Obj.cells cs 32 (0, 0))) : (results Tryd.f10 tmps).run Tryd.prog W = .ok (.agg cs) W := by
  have hl : (loadVar 32 ⟨b, 0, none⟩).run Tryd.prog W = .ok (.agg cs) W := run_loadVar_row W b 32 32 cs (0, 0) _ h Tryd.underlying32 rfl (by rw [sizeM, hs])
  have h4' : tmps[2]?.getD undef = .pointer (some ⟨b, 0, none⟩) := by simpa using h4
  simp [results, Tryd.results10, asAddr, h4', hl]
set_option maxHeartbeats 8000000 in
set_option maxRecDepth 100000 in
theorem of_c (o : Loc) (g : Arg) (W : World) (h : Hid (At2 W o g)) (hr : g.refs.length ≤ 1000000) :
    Calls Tryd.prog 10 #[.agg (o.b g)] W fun e w' => ∃ o' : Loc, e = .returned (.agg (o'.a g.m)) ∧ At w' o' g.m ∧ Below W.heap.size W w' := by
  obtain ⟨n, hn⟩ : ∃ n, g.refs.length = n := ⟨_, rfl⟩
  have HN := Lib.hid hn
  rw [hn] at hr
  go_enter Tryd.func10, Tryd.ntmps10
  go_upto_region 1 with (first | (refine wl_allocM rfl rfl ?_))
  have hb1 : Below W.heap.size W (W.alloc (Obj.cells (o.b g) 26 (0, 0))) := (Below.refl _ _).alloc (Nat.le_refl _) _
  have hD1 := heap_alloc_last W (Obj.cells (o.b g) 26 (0, 0))
  generalize (W.alloc (Obj.cells (o.b g) 26 (0, 0))) = w1 at *
  have hb2 : Below w1.heap.size w1 (w1.alloc (Obj.cells #[.slice none 0 0, .slice none 0 0, .int .i64 0, .slice none 0 0] 32 (0, 0))) := (Below.refl _ _).alloc (Nat.le_refl _) _
  have hZ2 := heap_alloc_last w1 (Obj.cells #[.slice none 0 0, .slice none 0 0, .int .i64 0, .slice none 0 0] 32 (0, 0))
  have hD2 := (hb2.block _ (Err.lt_of_block hD1)).trans hD1
  have hDl := Err.lt_of_block hD1
  obtain ⟨D, hD⟩ : ∃ D, W.heap.size = D := ⟨_, rfl⟩
  obtain ⟨Z, hZ⟩ : ∃ Z, w1.heap.size = Z := ⟨_, rfl⟩
  have hB2 : Below W.heap.size W (w1.alloc (Obj.cells #[.slice none 0 0, .slice none 0 0, .int .i64 0, .slice none 0 0] 32 (0, 0))) := hb1.trans (hb2.mono hb1.size)
  simp only [Act.put, List.setIfInBounds_toArray, List.set_cons_zero, List.set_cons_succ]
  simp only [hD, hZ] at hD2 hZ2 hDl ⊢
  generalize (w1.alloc (Obj.cells #[.slice none 0 0, .slice none 0 0, .int .i64 0, .slice none 0 0] 32 (0, 0))) = w2 at *
  have HD2 := Lib.hid hD2
  obtain ⟨k0, k1, k2, k3⟩ := arg_cells HD2
  clear hb1 hb2 hD1
  go_upto_region 2 with (first
    | (refine wl_allocM rfl rfl ?_)
    | (refine wl_storeMn #[.slice none 0 0, .slice none 0 0, .int .i64 0, .slice none 0 0] rfl ⟨none, 0, o.p1, o.c1, o.p3, o.c3⟩ ⟨[], g.stack, g.upper, g.snaps⟩ rfl _ _ rfl rfl rfl ?_))
  have hb3 : Below w2.heap.size w2 (w2.alloc (Obj.cells (Loc.a ⟨none, 0, o.p1, o.c1, o.p3, o.c3⟩ ⟨[], g.stack, g.upper, g.snaps⟩) 32 (0, 0))) := (Below.refl _ _).alloc (Nat.le_refl _) _
  have hO3 := heap_alloc_last w2 (Obj.cells (Loc.a ⟨none, 0, o.p1, o.c1, o.p3, o.c3⟩ ⟨[], g.stack, g.upper, g.snaps⟩) 32 (0, 0))
  obtain ⟨O, hO⟩ : ∃ O, w2.heap.size = O := ⟨_, rfl⟩
  have hZO := Err.lt_of_block hZ2
  have hDO := Err.lt_of_block hD2
  have hWD := hB2.size
  simp only [hO] at hO3 hZO hDO hWD ⊢
  have HO3 := Lib.hid (show OfS W (w2.alloc (Obj.cells (Loc.a ⟨none, 0, o.p1, o.c1, o.p3, o.c3⟩ ⟨[], g.stack, g.upper, g.snaps⟩) 32 (0, 0))) D Z O o g (.slice none 0 0) (.slice none 0 0) ((g.refs.take 0).map refOf) from
    ⟨hB2.trans (hb3.mono hB2.size), (hb3.block _ (by omega)).trans hD2, ⟨_, rfl, (hb3.block _ (by omega)).trans hZ2⟩, hO3, Kd.R_nil _ _ _ _ _⟩)
  generalize (w2.alloc (Obj.cells (Loc.a ⟨none, 0, o.p1, o.c1, o.p3, o.c3⟩ ⟨[], g.stack, g.upper, g.snaps⟩) 32 (0, 0))) = w3 at *
  clear hb3 hO3 hO hZ2 hD2 HD2 k0 k1 k2 k3 hB2 hZ
  have hDOne : D ≠ O := by omega
  have hZOne : Z ≠ O := by omega
  have hWO : W.heap.size ≤ O := by omega
  go_wp2_with fail
  go_loopg [4] n (fun kq v4 wr => ∃ (j : Nat) (u : Value), v4 = .int .i64 (j : Int) ∧ kq + j = n ∧ Hid (OfS W wr D Z O o g u u ((g.refs.take j).map refOf)))
  case atStart => exact ⟨0, _, rfl, by omega, HO3⟩
  case round =>
    clear HO3
    obtain ⟨j, u, rfl, hk, HO⟩ := hrel
    generalize wr = w4 at *
    obtain ⟨k0, _, _, _⟩ := arg_cells (Lib.hid HO.out.dd)
    rw [HN.out] at k0
    obtain ⟨ux, un, uc, rfl⟩ := r_sl HO.out.row
    cases gk with
    | zero =>
      have hj : j = n := by omega
      have c1 : decide ((j : Int) < (n : Int)) = false := decide_eq_false (by omega)
      have c1b : decide (j < n) = false := decide_eq_false (by omega)
      have hl : ((g.refs.take j).map refOf) = g.m.refs := by rw [hj, ← HN.out, List.take_length]; rfl
      have HO9 := HO
      rw [hl] at HO9
      have hun : un = g.m.refs.length := (Kd.R_reads' HO9.out.row).1
      subst hun
      have HOo := Lib.hid (show w4.heap[O]? = some (Obj.cells (Loc.a ⟨ux, uc, o.p1, o.c1, o.p3, o.c3⟩ g.m) 32 (0, 0)) from HO9.out.oo)
      obtain ⟨cs, hcs, hz⟩ := HO9.out.zz
      clear hj hl hk HO
      go_wp2_with (first
        | (refine wl_loadM O ⟨ux, uc, o.p1, o.c1, o.p3, o.c3⟩ g.m HOo.out rfl _ rfl rfl ?_)
        | (refine wl_storeM Z cs hcs ⟨ux, uc, o.p1, o.c1, o.p3, o.c3⟩ g.m hz rfl _ _ rfl rfl rfl ?_))
      (try simp only [Exit.inBlock, Exit.then])
      refine bodyPost_ret (v := .agg (Loc.a ⟨ux, uc, o.p1, o.c1, o.p3, o.c3⟩ g.m)) ?_ rfl ?_
      · exact of_results _ _ Z _ rfl rfl (setRow_heap w4 Z _ _ _ _ hz)
      have hm : Mod (· = Z) w4 (w4.setRow Z (Loc.a ⟨ux, uc, o.p1, o.c1, o.p3, o.c3⟩ g.m)) := mod_row w4 Z _
      have hrow := row_on (α := Rf) rfl HO9.out.row hm (fun b hb (e : b = Z) => by
        obtain ⟨cells, hc⟩ := Kd.R_typed HO9.out.row b hb
        rw [e, hz] at hc
        simp at hc)
      have hbel : Below W.heap.size W (w4.setRow Z (Loc.a ⟨ux, uc, o.p1, o.c1, o.p3, o.c3⟩ g.m)) := HO9.out.bel.trans (hm.below HO9.out.bel.size (fun i hi (e : i = Z) => by omega))
      have h2 := h.out.on hbel
      have h3 := Kd.R_reads' hrow
      exact ⟨⟨ux, uc, o.p1, o.c1, o.p3, o.c3⟩, rfl, ⟨h3.2.2, h3.2.1, h2.s, h2.sc, h2.n, h2.nc⟩, hbel⟩
    | succ k1 =>
      have hj : j < n := by omega
      have hjl : j < g.refs.length := by rw [HN.out]; exact hj
      have c1 : decide ((j : Int) < (n : Int)) = true := decide_eq_true (by omega)
      have c1b : decide (j < n) = true := decide_eq_true hj
      have p1 : (0 ≤ (j : Int)) = True := eq_true (by omega)
      have p2 : ((j : Int) < (n : Int)) = True := eq_true (by omega)
      have q5 : IntKind.i64.wrap ((j : Int) + 1) = (j : Int) + 1 := IntWalk.i64_in _ (by omega)
      obtain ⟨ad, ead, x0, x1, x2⟩ := at_T36 h.out.r (j : Int) (by omega) (by omega)
      have ex : rd_T36 g.refs (j : Int) = g.refs[j] := by
        unfold rd_T36
        simp [List.getD_eq_getElem?_getD, List.getElem?_eq_getElem hjl]
      rw [ex] at x0 x1 x2
      simp only [Int.toNat_natCast] at x0 x1 x2
      obtain ⟨x, hx⟩ : ∃ x, g.refs[j] = x := ⟨_, rfl⟩
      rw [hx] at x0 x1 x2
      rw [ead] at k0
      have HX := Lib.hid (show (g.refs.take (j + 1)).map refOf = (g.refs.take j).map refOf ++ [refOf x] by
        rw [← List.take_append_getElem hjl, hx, List.map_append]
        rfl)
      have HEad := Lib.hid ead
      have HX0 := Lib.hid x0
      have HX1 := Lib.hid x1
      have HX2 := Lib.hid x2
      have hlj : ((g.refs.take j).map refOf).length = j := by rw [List.length_map, List.length_take]; omega
      clear hx ex ead x0 x1 x2
      have hS := fun {w' : World} {v1 : Value} {l2 : List Rf} (q : OfS W w' D Z O o g (.slice ux un uc) v1 l2) => (show w'.cell? ⟨O, 0, none⟩ = some (.slice ux un uc) ∧ w'.cell? ⟨D, 0, none⟩ = some (.slice (some ad) n o.c0) ∧ w'.cell? (ad.add (j * 3)) = some (.int .i64 x.f0) ∧ w'.cell? ⟨(ad.add (j * 3)).block, (ad.add (j * 3)).off + 1, none⟩ = some (.int .i64 x.f1) ∧ w'.cell? ⟨(ad.add (j * 3)).block, (ad.add (j * 3)).off + 2, none⟩ = some (.int .u32 x.f2) from
        ⟨Err.cell_of_blk q.oo 0, by have z := (arg_cells (Lib.hid q.dd)).1; rw [HN.out, HEad.out] at z; exact z, (q.bel.cell (World.block_lt_of_cell? W _ HX0.out)).trans HX0.out, (q.bel.cell (World.block_lt_of_cell? W _ HX1.out)).trans HX1.out, (q.bel.cell (World.block_lt_of_cell? W _ HX2.out)).trans HX2.out⟩)
      go_upto_region 5 with fail
      go_wp2_with fail
      have HOd := Lib.hid (HO.out.on (Below.refl _ _).drew)
      refine start_ (n := 25) (S := fun w' => w'.cell? ⟨O, 0, none⟩ = some (.slice ux un uc) ∧ w'.cell? ⟨D, 0, none⟩ = some (.slice (some ad) n o.c0) ∧ w'.cell? (ad.add (j * 3)) = some (.int .i64 x.f0) ∧ w'.cell? ⟨(ad.add (j * 3)).block, (ad.add (j * 3)).off + 1, none⟩ = some (.int .i64 x.f1) ∧ w'.cell? ⟨(ad.add (j * 3)).block, (ad.add (j * 3)).off + 2, none⟩ = some (.int .u32 x.f2)) (ds := [24]) #[false, false, false, false, false, false, false, false, false, false, false, false, false, false, false, false, false, false, false, false, false, false, false, false, false] (by kernel_rfl) rfl rfl ⟨(hS HOd.out).1, (hS HOd.out).2.1, (hS HOd.out).2.2.1, (hS HOd.out).2.2.2.1, (hS HOd.out).2.2.2.2⟩ (fun hHeld => ?_)
      refine pure_ (i := 0) (N := some 19) (v := ?_) (a' := ?_) #[true, false, false, false, false, false, false, false, false, false, false, false, false, false, false, false, false, false, false, false, false, false, false, false, false] rfl rfl (by kernel_rfl) (fun _ _ _ h => h) (Or.inl ⟨by rfl, ?_⟩) ?_ ?_
      rotate_left
      · intro w'
        go_simp
        with_reducible rfl
      rotate_left
      · simp only [Act.put, List.setIfInBounds_toArray, List.set_cons_zero, List.set_cons_succ, i64_w, i32_w]
        rfl
      refine pure_ (i := 2) (N := some 21) (v := ?_) (a' := ?_) #[true, false, true, false, false, false, false, false, false, false, false, false, false, false, false, false, false, false, false, false, false, false, false, false, false] rfl rfl (by kernel_rfl) (fun _ _ _ h => h) (Or.inl ⟨by rfl, ?_⟩) ?_ ?_
      rotate_left
      · intro w'
        go_simp
        with_reducible rfl
      rotate_left
      · simp only [Act.put, List.setIfInBounds_toArray, List.set_cons_zero, List.set_cons_succ, i64_w, i32_w]
        rfl
      refine pure_ (i := 4) (N := some 23) (v := ?_) (a' := ?_) #[true, false, true, false, true, false, false, false, false, false, false, false, false, false, false, false, false, false, false, false, false, false, false, false, false] rfl rfl (by kernel_rfl) (fun _ _ _ h => h) (Or.inl ⟨by rfl, ?_⟩) ?_ ?_
      rotate_left
      · intro w'
        go_simp
        with_reducible rfl
      rotate_left
      · simp only [Act.put, List.setIfInBounds_toArray, List.set_cons_zero, List.set_cons_succ, i64_w, i32_w]
        rfl
      refine pure_ (i := 8) (N := some 27) (v := ?_) (a' := ?_) #[true, false, true, false, true, false, false, false, true, false, false, false, false, false, false, false, false, false, false, false, false, false, false, false, false] rfl rfl (by kernel_rfl) (fun _ _ _ h => h) (Or.inl ⟨by rfl, ?_⟩) ?_ ?_
      rotate_left
      · intro w'
        go_simp
        with_reducible rfl
      rotate_left
      · simp only [Act.put, List.setIfInBounds_toArray, List.set_cons_zero, List.set_cons_succ, i64_w, i32_w]
        rfl
      refine pure_ (i := 10) (N := some 29) (v := ?_) (a' := ?_) #[true, false, true, false, true, false, false, false, true, false, true, false, false, false, false, false, false, false, false, false, false, false, false, false, false] rfl rfl (by kernel_rfl) (fun _ _ _ h => h) (Or.inl ⟨by rfl, ?_⟩) ?_ ?_
      rotate_left
      · intro w'
        go_simp
        with_reducible rfl
      rotate_left
      · simp only [Act.put, List.setIfInBounds_toArray, List.set_cons_zero, List.set_cons_succ, i64_w, i32_w]
        rfl
      refine pure_ (i := 14) (N := some 33) (v := ?_) (a' := ?_) #[true, false, true, false, true, false, false, false, true, false, true, false, false, false, true, false, false, false, false, false, false, false, false, false, false] rfl rfl (by kernel_rfl) (fun _ _ _ h => h) (Or.inl ⟨by rfl, ?_⟩) ?_ ?_
      rotate_left
      · intro w'
        go_simp
        with_reducible rfl
      rotate_left
      · simp only [Act.put, List.setIfInBounds_toArray, List.set_cons_zero, List.set_cons_succ, i64_w, i32_w]
        rfl
      refine pure_ (i := 16) (N := some 35) (v := ?_) (a' := ?_) #[true, false, true, false, true, false, false, false, true, false, true, false, false, false, true, false, true, false, false, false, false, false, false, false, false] rfl rfl (by kernel_rfl) (fun _ _ _ h => h) (Or.inl ⟨by rfl, ?_⟩) ?_ ?_
      rotate_left
      · intro w'
        go_simp
        with_reducible rfl
      rotate_left
      · simp only [Act.put, List.setIfInBounds_toArray, List.set_cons_zero, List.set_cons_succ, i64_w, i32_w]
        rfl
      refine take_ (i := 1) (N := some 20) (v := ?_) (a' := ?_) #[true, true, true, false, true, false, false, false, true, false, true, false, false, false, true, false, true, false, false, false, false, false, false, false, false] rfl rfl (by kernel_rfl) (fun _ _ _ h => h) (Or.inl ⟨by rfl, ?_⟩) hHeld ?_ ?_
      rotate_left
      · rintro w' ⟨s0, s1, s2, s3, s4⟩
        go_simp
        with_reducible rfl
      rotate_left
      · simp only [Act.put, List.setIfInBounds_toArray, List.set_cons_zero, List.set_cons_succ, i64_w, i32_w]
        rfl
      refine take_ (i := 3) (N := some 22) (v := ?_) (a' := ?_) #[true, true, true, true, true, false, false, false, true, false, true, false, false, false, true, false, true, false, false, false, false, false, false, false, false] rfl rfl (by kernel_rfl) (fun _ _ _ h => h) (Or.inl ⟨by rfl, ?_⟩) hHeld ?_ ?_
      rotate_left
      · rintro w' ⟨s0, s1, s2, s3, s4⟩
        go_simp
        with_reducible rfl
      rotate_left
      · simp only [Act.put, List.setIfInBounds_toArray, List.set_cons_zero, List.set_cons_succ, i64_w, i32_w]
        rfl
      refine pure_ (i := 5) (N := some 24) (v := ?_) (a' := ?_) #[true, true, true, true, true, true, false, false, true, false, true, false, false, false, true, false, true, false, false, false, false, false, false, false, false] rfl rfl (by kernel_rfl) (fun _ _ _ h => h) (Or.inl ⟨by rfl, ?_⟩) ?_ ?_
      rotate_left
      · intro w'
        go_simp
        with_reducible rfl
      rotate_left
      · simp only [Act.put, List.setIfInBounds_toArray, List.set_cons_zero, List.set_cons_succ, i64_w, i32_w]
        rfl
      refine pure_ (i := 6) (N := some 25) (v := ?_) (a' := ?_) #[true, true, true, true, true, true, true, false, true, false, true, false, false, false, true, false, true, false, false, false, false, false, false, false, false] rfl rfl (by kernel_rfl) (fun _ _ _ h => h) (Or.inl ⟨by rfl, ?_⟩) ?_ ?_
      rotate_left
      · intro w'
        go_simp
        with_reducible rfl
      rotate_left
      · simp only [Act.put, List.setIfInBounds_toArray, List.set_cons_zero, List.set_cons_succ, i64_w, i32_w]
        rfl
      refine take_ (i := 7) (N := some 26) (v := ?_) (a' := ?_) #[true, true, true, true, true, true, true, true, true, false, true, false, false, false, true, false, true, false, false, false, false, false, false, false, false] rfl rfl (by kernel_rfl) (fun _ _ _ h => h) (Or.inl ⟨by rfl, ?_⟩) hHeld ?_ ?_
      rotate_left
      · rintro w' ⟨s0, s1, s2, s3, s4⟩
        go_simp
        with_reducible rfl
      rotate_left
      · simp only [Act.put, List.setIfInBounds_toArray, List.set_cons_zero, List.set_cons_succ, i64_w, i32_w]
        rfl
      refine take_ (i := 9) (N := some 28) (v := ?_) (a' := ?_) #[true, true, true, true, true, true, true, true, true, true, true, false, false, false, true, false, true, false, false, false, false, false, false, false, false] rfl rfl (by kernel_rfl) (fun _ _ _ h => h) (Or.inl ⟨by rfl, ?_⟩) hHeld ?_ ?_
      rotate_left
      · rintro w' ⟨s0, s1, s2, s3, s4⟩
        go_simp
        with_reducible rfl
      rotate_left
      · simp only [Act.put, List.setIfInBounds_toArray, List.set_cons_zero, List.set_cons_succ, i64_w, i32_w]
        rfl
      refine pure_ (i := 11) (N := some 30) (v := ?_) (a' := ?_) #[true, true, true, true, true, true, true, true, true, true, true, true, false, false, true, false, true, false, false, false, false, false, false, false, false] rfl rfl (by kernel_rfl) (fun _ _ _ h => h) (Or.inl ⟨by rfl, ?_⟩) ?_ ?_
      rotate_left
      · intro w'
        go_simp
        with_reducible rfl
      rotate_left
      · simp only [Act.put, List.setIfInBounds_toArray, List.set_cons_zero, List.set_cons_succ, i64_w, i32_w]
        rfl
      refine pure_ (i := 12) (N := some 31) (v := ?_) (a' := ?_) #[true, true, true, true, true, true, true, true, true, true, true, true, true, false, true, false, true, false, false, false, false, false, false, false, false] rfl rfl (by kernel_rfl) (fun _ _ _ h => h) (Or.inl ⟨by rfl, ?_⟩) ?_ ?_
      rotate_left
      · intro w'
        go_simp
        with_reducible rfl
      rotate_left
      · simp only [Act.put, List.setIfInBounds_toArray, List.set_cons_zero, List.set_cons_succ, i64_w, i32_w]
        rfl
      refine take_ (i := 13) (N := some 32) (v := ?_) (a' := ?_) #[true, true, true, true, true, true, true, true, true, true, true, true, true, true, true, false, true, false, false, false, false, false, false, false, false] rfl rfl (by kernel_rfl) (fun _ _ _ h => h) (Or.inl ⟨by rfl, ?_⟩) hHeld ?_ ?_
      rotate_left
      · rintro w' ⟨s0, s1, s2, s3, s4⟩
        go_simp
        with_reducible rfl
      rotate_left
      · simp only [Act.put, List.setIfInBounds_toArray, List.set_cons_zero, List.set_cons_succ, i64_w, i32_w]
        rfl
      refine take_ (i := 15) (N := some 34) (v := ?_) (a' := ?_) #[true, true, true, true, true, true, true, true, true, true, true, true, true, true, true, true, true, false, false, false, false, false, false, false, false] rfl rfl (by kernel_rfl) (fun _ _ _ h => h) (Or.inl ⟨by rfl, ?_⟩) hHeld ?_ ?_
      rotate_left
      · rintro w' ⟨s0, s1, s2, s3, s4⟩
        go_simp
        with_reducible rfl
      rotate_left
      · simp only [Act.put, List.setIfInBounds_toArray, List.set_cons_zero, List.set_cons_succ, i64_w, i32_w]
        rfl
      refine pure_ (i := 17) (N := some 36) (v := ?_) (a' := ?_) #[true, true, true, true, true, true, true, true, true, true, true, true, true, true, true, true, true, true, false, false, false, false, false, false, false] rfl rfl (by kernel_rfl) (fun _ _ _ h => h) (Or.inl ⟨by rfl, ?_⟩) ?_ ?_
      rotate_left
      · intro w'
        go_simp
        with_reducible rfl
      rotate_left
      · simp only [Act.put, List.setIfInBounds_toArray, List.set_cons_zero, List.set_cons_succ, i64_w, i32_w]
        rfl
      refine pure_ (i := 18) (N := some 37) (v := ?_) (a' := ?_) #[true, true, true, true, true, true, true, true, true, true, true, true, true, true, true, true, true, true, true, false, false, false, false, false, false] rfl rfl (by kernel_rfl) (fun _ _ _ h => h) (Or.inl ⟨by rfl, ?_⟩) ?_ ?_
      rotate_left
      · intro w'
        go_simp
        with_reducible rfl
      rotate_left
      · simp only [Act.put, List.setIfInBounds_toArray, List.set_cons_zero, List.set_cons_succ, i64_w, i32_w]
        rfl
      refine take_ (i := 19) (N := some 38) (v := ?_) (a' := ?_) #[true, true, true, true, true, true, true, true, true, true, true, true, true, true, true, true, true, true, true, true, false, false, false, false, false] rfl rfl (by kernel_rfl) (fun _ _ _ h => h) (Or.inl ⟨by rfl, ?_⟩) hHeld ?_ ?_
      rotate_left
      · rintro w' ⟨s0, s1, s2, s3, s4⟩
        go_simp
        with_reducible rfl
      rotate_left
      · simp only [Act.put, List.setIfInBounds_toArray, List.set_cons_zero, List.set_cons_succ, i64_w, i32_w]
        rfl
      refine pure_ (i := 20) (N := some 39) (v := ?_) (a' := ?_) #[true, true, true, true, true, true, true, true, true, true, true, true, true, true, true, true, true, true, true, true, true, false, false, false, false] rfl rfl (by kernel_rfl) (fun _ _ _ h => h) (Or.inl ⟨by rfl, ?_⟩) ?_ ?_
      rotate_left
      · intro w'
        go_simp
        with_reducible rfl
      rotate_left
      · simp only [Act.put, List.setIfInBounds_toArray, List.set_cons_zero, List.set_cons_succ, i64_w, i32_w]
        rfl
      refine one_ (i := 21) (N := some 40) #[true, true, true, true, true, true, true, true, true, true, true, true, true, true, true, true, true, true, true, true, true, true, false, false, false] rfl rfl (by kernel_rfl) (by decide) (fun K hK => ?_)
      refine value_ (by rfl) rfl (exec_litR rfl rfl _) ?_
      have hd : Below (World.drew w4).heap.size (World.drew w4) (World.alloc (World.drew w4) (Obj.cells #[.int .i64 x.f0, .int .i64 x.f1, .int .u32 x.f2] 56 (0, 0))) := (Below.refl _ _).alloc (Nat.le_refl _) _
      have HO7 := Lib.hid (HOd.out.on hd)
      have HL7 := Lib.hid (heap_alloc_last (World.drew w4) (Obj.cells #[.int .i64 x.f0, .int .i64 x.f1, .int .u32 x.f2] 56 (0, 0)))
      generalize (World.alloc (World.drew w4) (Obj.cells #[.int .i64 x.f0, .int .i64 x.f1, .int .u32 x.f2] 56 (0, 0))) = z7 at *
      clear hd
      refine hK.out _ _ ⟨(hS HO7.out).1, (hS HO7.out).2.1, (hS HO7.out).2.2.1, (hS HO7.out).2.2.2.1, (hS HO7.out).2.2.2.2⟩ (fun hHeld => ?_)
      clear hK K
      refine norm_ (a' := ?_) ?_ ?_
      rotate_left
      · show Act.put _ (some 40) _ = _
        simp only [Act.put, List.setIfInBounds_toArray, List.set_cons_zero, List.set_cons_succ, i64_w, i32_w]
        rfl
      refine one_ (i := 22) (N := some 41) #[true, true, true, true, true, true, true, true, true, true, true, true, true, true, true, true, true, true, true, true, true, true, true, false, false] rfl rfl (by kernel_rfl) (by decide) (fun K hK => ?_)
      refine Kd.R_append_rows_step rk (w0 := W) W.heap.size (by rfl) (.tmp 20) (.tmp 40) 30 56 (.agg #[.int .i64 0, .int .i64 0, .int .u32 0]) 24 (by rfl) Tryd.underlying30 infoR rfl (by decide) (by decide) (.slice ux un uc) ((g.refs.take j).map refOf) [refOf x] _ _ _ (fun _ => True) (fun _ => False) (by rfl) (by rfl) HO7.out.row (readsR _ _ (refOf x) HL7.out) (fun y cs hy => by subst hy; exact k56_mkM _ _ _ _) (fun _ h => h.elim) (fun _ _ => trivial) HO7.out.bel HO7.out.bel.size (by simp; omega) ?_
      intro v8 w8 ho hb hg hn
      obtain ⟨A8, m8, k8, rfl⟩ := r_sl ho
      have HO8 := Lib.hid (HO7.out.grow hg hb ho)
      have c9 := Err.cell_of_blk HO8.out.oo 0
      have f9 : w8.frozen? ⟨O, 0, none⟩ = false := by simp [World.frozen?, HO8.out.oo]
      clear ho hb hg hn
      refine hK.out _ _ ⟨(hS HO8.out).1, (hS HO8.out).2.1, (hS HO8.out).2.2.1, (hS HO8.out).2.2.2.1, (hS HO8.out).2.2.2.2⟩ (fun hHeld => ?_)
      clear hK K
      refine norm_ (a' := ?_) ?_ ?_
      rotate_left
      · show Act.put _ (some 41) _ = _
        simp only [Act.put, List.setIfInBounds_toArray, List.set_cons_zero, List.set_cons_succ, i64_w, i32_w]
        rfl
      refine pure_ (i := 23) (N := some 42) (v := ?_) (a' := ?_) #[true, true, true, true, true, true, true, true, true, true, true, true, true, true, true, true, true, true, true, true, true, true, true, true, false] rfl rfl (by kernel_rfl) (fun _ _ _ h => h) (Or.inl ⟨by rfl, ?_⟩) ?_ ?_
      rotate_left
      · intro w'
        go_simp
        with_reducible rfl
      rotate_left
      · simp only [Act.put, List.setIfInBounds_toArray, List.set_cons_zero, List.set_cons_succ, i64_w, i32_w]
        rfl
      refine last_ (i := 24) (N := none) #[true, true, true, true, true, true, true, true, true, true, true, true, true, true, true, true, true, true, true, true, true, true, true, true, true] rfl rfl (by kernel_rfl) (by decide) (fun K hK => ?_)
      refine skip_ (w1 := ?_) (by rfl) rfl ?_ ?_
      rotate_left
      · go_simp
        rfl
      refine hK.out _ _ ?_
      clear hK K
      refine done_ (by kernel_rfl) ?_
      clear hHeld hS HOd HO7 HL7
      have HO9 := Lib.hid (HO8.out.set hDOne hZOne hWO)
      generalize (w8.setCell ⟨O, 0, none⟩ (.slice A8 m8 k8)) = w9 at *
      clear HO8 c9 f9
      go_wp2_with fail
      go_roundg k1
      case measure => exact Nat.lt_succ_self _
      case rel => exact ⟨j + 1, _, by simp, by omega, Lib.hid (by rw [HX.out]; exact HO9.out)⟩
end Go.Proofs.YtpijilfkmkdghaaDoor.Mni
