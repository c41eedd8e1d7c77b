/- The document's disk: what it is, and how it stands in memory. -/
import Derived.Test.YtoanhafbofphgaaDoorDisk6
import Derived.Test.YtoanhafbofphgaaDoorLst
set_option linter.unusedVariables false
set_option linter.unusedSimpArgs false
namespace Go.Proofs.YtoanhafbofphgaaDoor.Rfd
open Go.RowKit Go.Proofs.YtoanhafbofphgaaDoorW.PrintWords Go.Proofs.YtoanhafbofphgaaDoorW.PrintLast Go.Proofs.YtoanhafbofphgaaDoorW.PrintMore Go.Proofs.YtoanhafbofphgaaDoor.Md Go.Proofs.YtoanhafbofphgaaDoor.Dk
open Go.Extern.Stop (cell)
open Go.Proofs.YtoanhafbofphgaaDoor.Err (Laid IsErr code_nil Chain at_some at_nil)
theorem zeroB (w : World) : (zeroValue 29).run Tryd.prog w = .ok (pv pz) w := by kernel_rfl
theorem sizeB : (Tryd.prog.info? 29).map (·.size) = some 64 := by kernel_rfl
section
variable {ops : Array Oper} {rest : List Oper} {o : Oper} {a : Go.Act} {w : World} {Q : Exit → Go.Act → World → Prop}
theorem wl_buildB (hgd : o.guard = none) (ho : o.op = .build 29 #[]) (h : wpList Tryd.prog ops Q rest (a.put o.dst (pv pz)) w) : wpList Tryd.prog ops Q (o :: rest) a w :=
  Kd.event_run hgd (by unfold execOp; simp only [ho]; kernel_rfl) h
theorem wl_allocB (hgd : o.guard = none) (ho : o.op = .alloc 29) (h : wpList Tryd.prog ops Q rest (a.put o.dst (.pointer (some ⟨w.heap.size, 0, none⟩))) (w.alloc (Obj.cells (pa pz) 29 (0, 0)))) : wpList Tryd.prog ops Q (o :: rest) a w :=
  Kd.event_run hgd (by unfold execOp; simp only [ho]; kernel_rfl) h
theorem storeB (W : World) (b : Nat) (q p : Pg) (h : W.heap[b]? = some (Obj.cells (pa q) 29 (0, 0))) : (Instr.storeAt 29 (.pointer (some ⟨b, 0, none⟩)) (pv p)).run Tryd.prog W = .ok () (W.setRow b (pa p)) := by
  simp only [Instr.storeAt, Instr.sureAddr, Sem.run_bind, Sem.run_pure, Result.andThen_ok]
  exact run_storeVar_row W b 29 29 (pa q) (pa p) h (by rw [sizeB, pa_size]) (by rw [pa_size, pa_size]) (pa_one p)
theorem wl_storeBn {W : World} (q p : Pg) (hgd : o.guard = none) (x y : Operand) (ho : o.op = .store 29 x y) (hx : a.eval x = .pointer (some ⟨W.heap.size, 0, none⟩)) (hy : a.eval y = pv p)
    (h : wpList Tryd.prog ops Q rest (a.put o.dst undef) (W.alloc (Obj.cells (pa p) 29 (0, 0)))) : wpList Tryd.prog ops Q (o :: rest) a (W.alloc (Obj.cells (pa q) 29 (0, 0))) :=
  wpList_plain hgd fun K hK => by
    unfold Oper.wp execOp
    simp only [ho, hx, hy, storeB _ W.heap.size q p (heap_alloc_last _ _), World.setRow_alloc_new, Sem.run_bind, Sem.run_pure, Result.andThen_ok]
    exact hK _ _ h
theorem loadPB (w : World) (b off : Nat) (p : Pg) (hr : w.rangeAt b off (pcs p)) : (Instr.loadAt 29 (.pointer (some ⟨b, off, none⟩))).run Tryd.prog w = .ok (pv p) w := by
  rw [run_loadAt_mid w b off 29 (pcs p) _ hr Tryd.underlying29 rfl (by rw [sizeB, pcs_length])]
  rfl
theorem wl_loadPB (b off : Nat) (p : Pg) (hr : w.rangeAt b off (pcs p)) (hgd : o.guard = none) (x : Operand) (ho : o.op = .load 29 x) (hx : a.eval x = .pointer (some ⟨b, off, none⟩))
    (h : wpList Tryd.prog ops Q rest (a.put o.dst (pv p)) w) : wpList Tryd.prog ops Q (o :: rest) a w :=
  Kd.event_run hgd (by unfold execOp; simp only [ho, hx, loadPB w b off p hr, Sem.run_bind, Sem.run_pure, Result.andThen_ok]) h
theorem wg_loadPB (b off : Nat) (p : Pg) (hr : w.rangeAt b off (pcs p)) (hw : Region.wanted o (yielded ops a.tmps) = true) (x : Operand) (ho : o.op = .load 29 x) (hx : a.eval x = .pointer (some ⟨b, off, none⟩))
    (h : wpList Tryd.prog ops Q rest (a.put o.dst (pv p)) w) : wpList Tryd.prog ops Q (o :: rest) a w :=
  wg_run hw (by unfold execOp; simp only [ho, hx, loadPB w b off p hr, Sem.run_bind, Sem.run_pure, Result.andThen_ok]) h
end
theorem range_row (w : World) (b : Nat) (p : Pg) (h : w.heap[b]? = some (Obj.cells (pa p) 29 (0, 0))) : w.rangeAt b 0 (pcs p) := by
  intro j u hu
  rw [Nat.zero_add, Err.cell_of_blk h, ← hu, ← pa_list, Array.getElem?_toList]
theorem run_loadB (w : World) (b : Nat) (p : Pg) (h : w.heap[b]? = some (Obj.cells (pa p) 29 (0, 0))) : (Instr.loadAt 29 (.pointer (some ⟨b, 0, none⟩))).run Tryd.prog w = .ok (pv p) w := loadPB w b 0 p (range_row w b p h)
theorem wl_storeB {ops : Array Oper} {rest : List Oper} {o : Oper} {a : Act} {w : World} {Q : Exit → Act → World → Prop} (b : Nat) (q p : Pg) (hp : w.heap[b]? = some (Obj.cells (pa q) 29 (0, 0))) (hgd : o.guard = none) (x y : Operand) (ho : o.op = .store 29 x y) (hx : a.eval x = .pointer (some ⟨b, 0, none⟩)) (hy : a.eval y = pv p)
    (h : wpList Tryd.prog ops Q rest (a.put o.dst undef) (w.setRow b (pa p))) : wpList Tryd.prog ops Q (o :: rest) a w :=
  wpList_plain hgd fun K hK => by
    unfold Oper.wp execOp
    simp only [ho, hx, hy, storeB w b q p hp, Sem.run_bind, Sem.run_pure, Result.andThen_ok]
    exact hK _ _ h
/-- rows of sectors -/
def pk : Kd Pg where
  sz := 64
  E := []
  K := fun _ x cs => cs = pcs x
  M := fun _ _ _ x cs => cs = pcs x
  K_len := fun h => by rw [h]; exact pcs_length _
  K_one := fun h u hu => by rw [h] at hu; exact pcs_one _ u hu
  K_below := fun _ h => h
  K_of_M := fun h => h
  M_mono := fun _ h => h
  M_bound := fun h => h
  M_move := fun _ h => h
  M_lower := fun _ h => h
/-- a slice's three words -/
structure Sl where
  p : Option Addr
  n : Nat
  c : Nat
def Sl.v (s : Sl) : Value := .slice s.p s.n s.c
theorem Sl.one (s : Sl) : s.v.oneCell' = true := rfl
/-- the document's disk as a value -/
structure RV where
  size : Int
  x : Sl
  y : Sl
  z : Sl
  down : Bool
  budget : Int
def RV.a (r : RV) : Array Value := #[.int .i64 r.size, .slice r.x.p r.x.n r.x.c, .slice r.y.p r.y.n r.y.c, .slice r.z.p r.z.n r.z.c, .bool r.down, .int .i64 r.budget]
def RV.zero : RV := ⟨0, ⟨none, 0, 0⟩, ⟨none, 0, 0⟩, ⟨none, 0, 0⟩, false, 0⟩
theorem rv_one (r : RV) : r.a.all (·.oneCell') = true := by simp [RV.a, Value.oneCell']
/-- what it is: firm writes, writes that aren't -/
structure RD where
  size : Int
  F : List (Int × Pg)
  S : List (Int × Pg)
  down : Bool
  budget : Int
def RD.L (d : RD) : List (Int × Pg) := d.F ++ d.S
def RD.fi (d : RD) : List Bool := List.replicate d.F.length true ++ List.replicate d.S.length false
theorem RD.fi_length (d : RD) : d.fi.length = d.L.length := by simp [RD.fi, RD.L]
/-- a row of a type's own cells goes on, where no block of that type is written -/
theorem r_mod {α : Type} {d : Kd α} {e : Nat} {w w' : World} {ok : Nat → Prop} {v : Value} {xs : List α} {S : Nat → Prop} (h : d.R e w 0 ok v xs) (k : Mod S w w') (hn : ∀ i cells, w.heap[i]? = some (.cells cells e (0, 0)) → ¬ S i) (hM : ∀ x cs ok', d.M w 0 ok' x cs → d.M w' 0 ok' x cs) : d.R e w' 0 ok v xs := by
  obtain ⟨h0, inner, ho, hr⟩ := h
  exact ⟨h0, inner, own_move ho (fun i hi => k.block i (own_lt ho i hi) (by obtain ⟨cells, hc⟩ := own_typed ho i hi; exact hn i cells hc)), hr.imp_ (fun _ _ hp => hM _ _ _ hp)⟩
structure IsR (w : World) (r : RV) (d : RD) : Prop where
  size : r.size = d.size
  down : r.down = d.down
  budget : r.budget = d.budget
  x : (Kd.int .i64).R 3 w 0 (fun _ => True) r.x.v (d.L.map (·.1))
  y : pk.R 29 w 0 (fun _ => True) r.y.v (d.L.map (·.2))
  z : Kd.bool.R 4 w 0 (fun _ => True) r.z.v d.fi
theorem IsR.on {w w' : World} {r : RV} {d : RD} (h : IsR w r d) (k : Below w.heap.size w w') : IsR w' r d :=
  ⟨h.size, h.down, h.budget, Kd.R_below h.x k, Kd.R_below h.y k, Kd.R_below h.z k⟩
theorem IsR.mod {w w' : World} {r : RV} {d : RD} {S : Nat → Prop} (h : IsR w r d) (k : Mod S w w') (hn : ∀ i cells t, w.heap[i]? = some (.cells cells t (0, 0)) → t = 3 ∨ t = 29 ∨ t = 4 → ¬ S i) : IsR w' r d :=
  ⟨h.size, h.down, h.budget, r_mod h.x k (fun i c hc => hn i c _ hc (.inl rfl)) (fun _ _ _ h => h), r_mod h.y k (fun i c hc => hn i c _ hc (.inr (.inl rfl))) (fun _ _ _ h => h), r_mod h.z k (fun i c hc => hn i c _ hc (.inr (.inr rfl))) (fun _ _ _ h => h)⟩
/-- what a disk's call writes is none of it -/
theorem IsR.ft {w w' : World} {r : RV} {d : RD} {R M : Nat} {v : Value} {D : Dsk} (h : IsR w r d) (hd : IsD w R M v D) (k : Mod (Ft R M v) w w') : IsR w' r d :=
  h.mod k (fun i cells t hc ht hf => by
    rcases hf with rfl | rfl | e
    · rw [hd.blk] at hc; simp at hc; rcases ht with rfl | rfl | rfl <;> simp at hc
    · obtain ⟨es, ck, g, _⟩ := hd.map
      rw [g] at hc; simp at hc
    · obtain ⟨_, inner, ho, _⟩ := hd.soft
      obtain ⟨cells2, hc2⟩ := own_typed ho i e
      rw [hc2] at hc; simp at hc; rcases ht with rfl | rfl | rfl <;> simp at hc)
theorem IsR.blk {w w' : World} {r : RV} {d : RD} {X : Nat} {cs : Array Value} {t : TypeId} (h : IsR w r d) (hx : w.heap[X]? = some (.cells cs t (0, 0))) (ht : t ≠ 3 ∧ t ≠ 29 ∧ t ≠ 4) (k : Mod (· = X) w w') : IsR w' r d :=
  h.mod k (fun i cells t' hc ht' (e : i = X) => by
    subst e
    rw [hx] at hc
    injection hc with hc; injection hc with _ hc _
    subst hc
    rcases ht' with e | e | e
    · exact ht.1 e
    · exact ht.2.1 e
    · exact ht.2.2 e)
theorem IsR.nx {w : World} {r : RV} {d : RD} (h : IsR w r d) : r.x.n = d.L.length := by
  obtain ⟨A, c, e⟩ := Kd.R_slice h.x
  unfold Sl.v at e
  injection e with _ e _
  rw [e, List.length_map]
theorem IsR.ny {w : World} {r : RV} {d : RD} (h : IsR w r d) : r.y.n = d.L.length := by
  obtain ⟨A, c, e⟩ := Kd.R_slice h.y
  unfold Sl.v at e
  injection e with _ e _
  rw [e, List.length_map]
theorem IsR.nz {w : World} {r : RV} {d : RD} (h : IsR w r d) : r.z.n = d.L.length := by
  obtain ⟨A, c, e⟩ := Kd.R_slice h.z
  unfold Sl.v at e
  injection e with _ e _
  rw [e, d.fi_length]
theorem int_at {w : World} {ok : Nat → Prop} {A : Option Addr} {n c : Nat} {l : List Int} (h : (Kd.int .i64).R 3 w 0 ok (.slice A n c) l) (k : Nat) (hk : k < l.length) : ∃ g, A = some ⟨g, 0, none⟩ ∧ w.cell? ⟨g, k, none⟩ = some (.int .i64 l[k]) := by
  obtain ⟨g, cap, e, _⟩ := Kd.R_form h (by omega)
  injection e with e1 e2 e3
  subst e1
  obtain ⟨_, _, hr⟩ := Kd.R_reads' h
  obtain ⟨_, _, hx⟩ := hr
  obtain ⟨ad, ea, hx⟩ := hx (by omega)
  cases ea
  obtain ⟨cs, h1, h2, h4⟩ := hx k l[k] (List.getElem?_eq_getElem hk)
  have h2' : cs = [.int .i64 l[k]] := h2
  subst h2'
  have := h4 0 _ rfl
  rw [Addr.add_mid] at this
  simpa [Kd.int, Kd.scalar] using this
theorem bool_at {w : World} {ok : Nat → Prop} {A : Option Addr} {n c : Nat} {l : List Bool} (h : Kd.bool.R 4 w 0 ok (.slice A n c) l) (k : Nat) (hk : k < l.length) : ∃ g, A = some ⟨g, 0, none⟩ ∧ w.cell? ⟨g, k, none⟩ = some (.bool l[k]) := by
  obtain ⟨g, cap, e, _⟩ := Kd.R_form h (by omega)
  injection e with e1 e2 e3
  subst e1
  obtain ⟨_, _, hr⟩ := Kd.R_reads' h
  obtain ⟨_, _, hx⟩ := hr
  obtain ⟨ad, ea, hx⟩ := hx (by omega)
  cases ea
  obtain ⟨cs, h1, h2, h4⟩ := hx k l[k] (List.getElem?_eq_getElem hk)
  have h2' : cs = [.bool l[k]] := h2
  subst h2'
  have := h4 0 _ rfl
  rw [Addr.add_mid] at this
  simpa [Kd.bool, Kd.scalar] using this
theorem page_at {w : World} {ok : Nat → Prop} {A : Option Addr} {n c : Nat} {l : List Pg} (h : pk.R 29 w 0 ok (.slice A n c) l) (k : Nat) (hk : k < l.length) : ∃ g, A = some ⟨g, 0, none⟩ ∧ w.rangeAt g (k * 64) (pcs l[k]) := by
  obtain ⟨g, cap, e, _⟩ := Kd.R_form h (by omega)
  injection e with e1 e2 e3
  subst e1
  obtain ⟨_, _, hr⟩ := Kd.R_reads' h
  obtain ⟨_, _, hx⟩ := hr
  obtain ⟨ad, ea, hx⟩ := hx (by omega)
  cases ea
  obtain ⟨cs, h1, h2, h4⟩ := hx k l[k] (List.getElem?_eq_getElem hk)
  have h2' : cs = pcs l[k] := h2
  subst h2'
  refine ⟨g, rfl, fun j u hu => ?_⟩
  have := h4 j u hu
  rw [Addr.add_mid] at this
  simpa [pk] using this
theorem infoB : (Tryd.prog.info? 29).map (fun i => (i.zero, i.size, i.bytes)) = some (some (pv pz), 64, 64) := by kernel_rfl
theorem infoI : (Tryd.prog.info? 3).map (fun i => (i.zero, i.size, i.bytes)) = some (some (.int .i64 0), 1, 8) := by kernel_rfl
theorem infoL : (Tryd.prog.info? 4).map (fun i => (i.zero, i.size, i.bytes)) = some (some (.bool false), 1, 1) := by kernel_rfl
theorem rowB (W : World) (b : Nat) (q p : Pg) (h : W.heap[b]? = some (Obj.cells (pa q) 29 (0, 0))) : (W.setRow b (pa p)).heap[b]? = some (Obj.cells (pa p) 29 (0, 0)) := by
  rw [setRow_heap _ _ _ _ _ _ h]
/-- of a list of writes, what stands at i -/
def rdl (l : List (Int × Pg)) (i : Int) : Pg := l.foldl (fun out x => if x.1 = i then x.2 else out) pz
theorem rdl_snoc (l : List (Int × Pg)) (x : Int × Pg) (i : Int) : rdl (l ++ [x]) i = if x.1 = i then x.2 else rdl l i := by
  unfold rdl; rw [List.foldl_append]; rfl
/-- of writes that aren't firm, those that the mask keeps -/
def kept (mask : Nat) : List (Int × Pg) → Nat → List (Int × Pg)
  | [], _ => []
  | x :: l, n => (if bit mask n = true then [x] else []) ++ kept mask l (n + 1)
theorem kept_snoc (mask : Nat) (x : Int × Pg) : ∀ (l : List (Int × Pg)) (n : Nat), kept mask (l ++ [x]) n = kept mask l n ++ (if bit mask (n + l.length) = true then [x] else [])
  | [], n => by simp [kept]
  | y :: l, n => by
    simp only [List.cons_append, kept, kept_snoc mask x l (n + 1), List.append_assoc, List.length_cons]
    rw [show n + 1 + l.length = n + (l.length + 1) by omega]
theorem stl_rdl (mask : Nat) : ∀ (l : List (Int × Pg)) (F : List (Int × Pg)) (n : Nat), stl mask (rdl F) l n = rdl (F ++ kept mask l n)
  | [], F, n => by simp [stl, kept]
  | x :: l, F, n => by
    have hu : upd (rdl F) x.1 x.2 = rdl (F ++ [x]) := by
      funext a
      rw [rdl_snoc]
      unfold upd
      by_cases e : a = x.1
      · rw [if_pos e, if_pos e.symm]
      · rw [if_neg e, if_neg (fun h => e h.symm)]
    unfold stl kept
    by_cases hb : bit mask n = true
    · rw [if_pos hb, if_pos hb, hu, stl_rdl mask l (F ++ [x]) (n + 1), List.append_assoc]
    · rw [if_neg hb, if_neg hb, stl_rdl mask l F (n + 1), List.nil_append]
theorem rd_rdl (F S : List (Int × Pg)) (s : Int) (dn : Bool) (bu : Int) (i : Int) : Dk.rd ⟨s, rdl F, S, dn, bu⟩ i = rdl (F ++ S) i := by
  unfold Dk.rd rdl; rw [List.foldl_append]
theorem run_loadD (w : World) (b : Nat) (r : RV) (h : w.heap[b]? = some (Obj.cells r.a 49 (0, 0))) : (Instr.loadAt 49 (.pointer (some ⟨b, 0, none⟩))).run Tryd.prog w = .ok (.agg r.a) w := by
  simp only [Instr.loadAt, Instr.sureAddr, Sem.run_bind, Sem.run_pure, Result.andThen_ok]
  exact run_loadVar_row w b 49 49 r.a (0, 0) _ h Tryd.underlying49 rfl (by kernel_rfl)
theorem exec_loadD {ρ : Operand → Value} {oo : Oper} {x : Operand} {W : World} {b : Nat} {r : RV} (ho : oo.op = .load 49 x) (hx : ρ x = .pointer (some ⟨b, 0, none⟩)) (hp : W.heap[b]? = some (Obj.cells r.a 49 (0, 0))) : (execOp ρ oo).run Tryd.prog W = .ok (.value (.agg r.a)) W := by
  unfold execOp; simp only [ho, hx, run_loadD W b r hp, Sem.run_bind, Sem.run_pure, Result.andThen_ok]
theorem sizeD : (Tryd.prog.info? 49).map (·.size) = some 6 := by kernel_rfl
section
variable {ops : Array Oper} {rest : List Oper} {oo : Oper} {a : Go.Act} {w : World} {Q : Exit → Go.Act → World → Prop}
theorem wl_loadD (b : Nat) (r : RV) (hp : w.heap[b]? = some (Obj.cells r.a 49 (0, 0))) (hgd : oo.guard = none) (p_ : Operand) (ho : oo.op = .load 49 p_) (hx : a.eval p_ = .pointer (some ⟨b, 0, none⟩))
    (h : wpList Tryd.prog ops Q rest (a.put oo.dst (.agg r.a)) w) : wpList Tryd.prog ops Q (oo :: rest) a w :=
  Kd.event_run hgd (exec_loadD ho hx hp) h
theorem wg_loadD (b : Nat) (r : RV) (hp : w.heap[b]? = some (Obj.cells r.a 49 (0, 0))) (hw : Region.wanted oo (yielded ops a.tmps) = true) (p_ : Operand) (ho : oo.op = .load 49 p_) (hx : a.eval p_ = .pointer (some ⟨b, 0, none⟩))
    (h : wpList Tryd.prog ops Q rest (a.put oo.dst (.agg r.a)) w) : wpList Tryd.prog ops Q (oo :: rest) a w := by
  have hrun := exec_loadD (ρ := a.eval) ho hx hp
  refine BigFrame.wpList_want hw fun K hK => ?_
  unfold Oper.wp
  rw [hrun]
  exact hK _ _ h
theorem wl_storeD (b : Nat) (cs0 : Array Value) (hcs : cs0.size = 6) (r : RV) (hp : w.heap[b]? = some (Obj.cells cs0 49 (0, 0))) (hgd : oo.guard = none) (p_ q_ : Operand) (ho : oo.op = .store 49 p_ q_) (hx : a.eval p_ = .pointer (some ⟨b, 0, none⟩)) (hy : a.eval q_ = .agg r.a)
    (h : wpList Tryd.prog ops Q rest (a.put oo.dst undef) (w.setRow b r.a)) : wpList Tryd.prog ops Q (oo :: rest) a w :=
  wpList_plain hgd fun K hK => by
    have hrun : (Instr.storeAt 49 (.pointer (some ⟨b, 0, none⟩)) (.agg r.a)).run Tryd.prog w = .ok () (w.setRow b r.a) := by
      simp only [Instr.storeAt, Instr.sureAddr, Sem.run_bind, Sem.run_pure, Result.andThen_ok]
      exact run_storeVar_row w b 49 49 cs0 r.a hp sizeD (by rw [hcs]; rfl) (rv_one r)
    unfold Oper.wp execOp
    simp only [ho, hx, hy, Sem.run_bind, hrun, Result.andThen_ok]
    exact hK _ _ h
theorem wl_storeDn {W : World} (cs0 : Array Value) (hcs : cs0.size = 6) (r : RV) (hgd : oo.guard = none) (p_ q_ : Operand) (ho : oo.op = .store 49 p_ q_) (hx : a.eval p_ = .pointer (some ⟨W.heap.size, 0, none⟩)) (hy : a.eval q_ = .agg r.a)
    (h : wpList Tryd.prog ops Q rest (a.put oo.dst undef) (W.alloc (Obj.cells r.a 49 (0, 0)))) : wpList Tryd.prog ops Q (oo :: rest) a (W.alloc (Obj.cells cs0 49 (0, 0))) := by
  refine wl_storeD W.heap.size cs0 hcs r (heap_alloc_last _ _) hgd p_ q_ ho hx hy ?_
  rw [World.setRow_alloc_new]
  exact h
theorem wl_allocD (hgd : oo.guard = none) (ho : oo.op = .alloc 49) (h : wpList Tryd.prog ops Q rest (a.put oo.dst (.pointer (some ⟨w.heap.size, 0, none⟩))) (w.alloc (Obj.cells RV.zero.a 49 (0, 0)))) : wpList Tryd.prog ops Q (oo :: rest) a w :=
  Kd.event_run hgd (by unfold execOp; simp only [ho]; kernel_rfl) h
end
end Go.Proofs.YtoanhafbofphgaaDoor.Rfd
