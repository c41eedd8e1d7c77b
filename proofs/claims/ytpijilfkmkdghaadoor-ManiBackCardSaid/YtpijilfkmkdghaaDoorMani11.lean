/- mani.Swept, the walk. -/
import Derived.Test.YtpijilfkmkdghaaDoorMani10
import Derived.Test.YtpijilfkmkdghaaDoorQManiDrops
set_option linter.unusedVariables false
set_option linter.unusedSimpArgs false
namespace Go.Proofs.YtpijilfkmkdghaaDoor.Mni
open Go.RowKit Go.Proofs.YtpijilfkmkdghaaDoorW.PrintWords Go.Proofs.YtpijilfkmkdghaaDoorW.PrintLast Go.Proofs.YtpijilfkmkdghaaDoorW.PrintMore Go.Proofs.YtpijilfkmkdghaaDoor.Md Go.Proofs.YtpijilfkmkdghaaDoor.QManiBack Go.Proofs.YtpijilfkmkdghaaDoor.CdM
open Go.Proofs.YtpijilfkmkdghaaDoor.Err (Laid IsErr code_nil code_c Chain at_some at_nil)
theorem told_run (al l : List Int) (hl : l.length ≤ 1000000) (hb : ∀ x ∈ l, 0 ≤ x ∧ x < al.length) : ∀ (n j : Nat) (acc : List Int), j + n = l.length → acc.length ≤ j → QManiDrops.mani_told.l0 (n + 1) al acc l (l.length : Int) (j : Int) = some (acc ++ (l.drop j).map (fun x => rd al x))
  | 0, j, acc, hj, ha => by
    unfold QManiDrops.mani_told.l0
    rw [if_neg (by omega), List.drop_eq_nil_of_le (by omega)]
    simp
  | n + 1, j, acc, hj, ha => by
    have hlt : j < l.length := by omega
    have hx := hb l[j] (List.getElem_mem hlt)
    have e2 : wrap64 ((j : Int) + 1) = ((j + 1 : Nat) : Int) := by unfold wrap64; omega
    unfold QManiDrops.mani_told.l0
    rw [if_pos (by omega), if_pos (by omega), if_pos (by omega), rd_get l j hlt, if_pos (by omega), if_pos (by omega), if_pos (by omega), e2, told_run al l hl hb n (j + 1) _ (by omega) (by rw [List.length_append, List.length_singleton]; omega), List.drop_eq_getElem_cons hlt, List.append_assoc]
    rfl
theorem told_c (A : Option Addr) (c : Nat) (l : List Int) (A2 : Option Addr) (c2 : Nat) (al : List Int) (n1 n2 : Nat) (w : World) (r : List Int) (h1 : l.length = n1) (h2 : al.length = n2) (hl : n1 ≤ 1000000) (hb : ∀ x ∈ l, 0 ≤ x ∧ x < al.length) (hc : n1 ≤ c) (hc2 : n2 ≤ c2) (h : Kd.C (Kd.int .i64) w A l.length l) (h' : Kd.C (Kd.int .i64) w A2 al.length al) (hr : l.map (fun x => rd al x) = r) :
    Calls Tryd.prog 21 #[.slice A n1 c, .slice A2 n2 c2] w fun e w' => ∃ v : Value, e = .returned v ∧ Kd.R (Kd.int .i64) 3 w' w.heap.size (fun _ => True) v r ∧ Below w.heap.size w w' := by
  subst h1
  subst h2
  refine QManiDrops.mani_told.calls (l.length + 1) A c l A2 c2 al r w h hc h' hc2 ?_
  unfold QManiDrops.mani_told.f
  have z := told_run al l hl hb l.length 0 [] (by omega) (Nat.zero_le _)
  rw [List.drop_zero, List.nil_append, hr] at z
  exact z
theorem exec_loadRf {ρ : Operand → Value} {o : Oper} {x : Operand} {w : World} {p : Addr} {r : Rf} (ho : o.op = .load 56 x) (hx : ρ x = .pointer (some p)) (h : w.cell? p = some (.int .i64 r.f0) ∧ w.cell? ⟨p.block, p.off + 1, none⟩ = some (.int .i64 r.f1) ∧ w.cell? ⟨p.block, p.off + 2, none⟩ = some (.int .u32 r.f2)) : (execOp ρ o).run Tryd.prog w = .ok (.value (.agg (ra r))) w := by
  have hl : (loadCells p 3).run Tryd.prog w = .ok (ra r) w := run_loadCells_list (P := Tryd.prog) w p [.int .i64 r.f0, .int .i64 r.f1, .int .u32 r.f2] (fun j v hj => by
    rcases j with _ | _ | _ | j
    · cases hj; exact h.1
    · cases hj; rw [show p.add (0 + 1) = ⟨p.block, p.off + 1, none⟩ from by unfold Addr.add; rw [if_neg (by omega)]]; exact h.2.1
    · cases hj; rw [show p.add (0 + 1 + 1) = ⟨p.block, p.off + 2, none⟩ from by unfold Addr.add; rw [if_neg (by omega)]]; exact h.2.2
    · simp at hj)
  have hagg := Tryd.isAgg56
  have hi := sizeR
  have hrun : (Instr.loadAt 56 (.pointer (some p))).run Tryd.prog w = .ok (.agg (ra r)) w := by
    cases hq : Tryd.prog.info? 56 with
    | none => rw [hq] at hi; simp at hi
    | some i =>
      have hs : i.size = 3 := by rw [hq] at hi; simpa using hi
      simp only [Instr.loadAt, Instr.sureAddr, Sem.run_bind, Sem.run_pure, Result.andThen_ok]
      simp [loadVar, Sem.run_bind, hagg, sizeOf, typeInfo, hq, hs, hl]
  unfold execOp
  simp only [ho, hx, hrun, Sem.run_bind, Sem.run_pure, Result.andThen_ok]
theorem litL (A : Option Addr) (n c : Nat) (W : World) : (Instr.buildSlice 24 1 #[(0, .slice A n c)]).run Tryd.prog W = .ok (.slice (some ⟨W.heap.size, 0, none⟩) 1 1) (W.alloc (.cells #[.slice A n c] 23 (0, 0))) := by kernel_rfl
theorem exec_litL {r : Operand → Value} {o : Oper} {x : Operand} {A : Option Addr} {n c : Nat} (ho : o.op = .buildSlice 24 1 #[(0, x)]) (hx : r x = .slice A n c) (W : World) : (execOp r o).run Tryd.prog W = .ok (.value (.slice (some ⟨W.heap.size, 0, none⟩) 1 1)) (W.alloc (.cells #[.slice A n c] 23 (0, 0))) := by
  have h2 := litL A n c W
  unfold execOp
  simp only [ho]
  have e : (#[((0 : Nat), x)] : Array (Nat × Operand)).map (fun (y : Nat × Operand) => (y.1, r y.2)) = #[(0, .slice A n c)] := by simp [hx]
  show (Sem.run _ (do let v ← Instr.buildSlice _ 1 (Array.map _ _); _) _) = _
  rw [e, Sem.run_bind, h2]
  rfl
theorem infoI : (Tryd.prog.info? 3).map (fun i => (i.zero, i.size, i.bytes)) = some (some (.int .i64 0), 1, 8) := by kernel_rfl
theorem infoV : (Tryd.prog.info? 23).map (fun i => (i.zero, i.size, i.bytes)) = some (some (.slice none 0 0), 1, 24) := by kernel_rfl
/-- a row of one list, as a literal has laid it -/
theorem readsL (w : World) (g : Nat) (v : Value) (l : List Int) (M : List Int → List Value → Prop) (h : w.heap[g]? = some (.cells #[v] 23 (0, 0))) (hM : M l [v]) : ReadsRow M lk.sz w (some ⟨g, 0, none⟩) 1 [l] := by
  refine ⟨rfl, by decide, fun _ => ⟨⟨g, 0, none⟩, rfl, fun j x hj => ?_⟩⟩
  have hj0 : j = 0 := by
    have := (List.getElem?_eq_some_iff.1 hj).1
    simp at this; exact this
  subst hj0
  cases hj
  refine ⟨[v], rfl, hM, fun i u hi => ?_⟩
  have hi0 : i = 0 := by
    have := (List.getElem?_eq_some_iff.1 hi).1
    simp at this; exact this
  subst hi0
  cases hi
  exact Err.cell_of_blk h 0
structure Sw (B wr : World) (O : Nat) (c0 c1 c2 c3 : Value) : Prop where
  bel : Below B.heap.size B wr
  oo : wr.heap[O]? = some (Obj.cells #[c0, c1, c2, c3] 32 (0, 0))
section
variable {B wr w1 : World} {O g : Nat} {c0 c1 c2 c3 d0 d1 d2 d3 u v v2 : Value}
theorem Sw.on (h : Sw B wr O c0 c1 c2 c3) (k : Below wr.heap.size wr w1) : Sw B w1 O c0 c1 c2 c3 :=
  ⟨h.bel.trans (k.mono h.bel.size), (k.block _ (Err.lt_of_block h.oo)).trans h.oo⟩
theorem Sw.put (h : Sw B wr O c0 c1 c2 c3) (hO : B.heap.size ≤ O) (j : Nat) (u : Value) (e : (#[c0, c1, c2, c3] : Array Value).setIfInBounds j u = #[d0, d1, d2, d3]) : Sw B (wr.setCell ⟨O, j, none⟩ u) O d0 d1 d2 d3 := by
  have k : Mod (· = O) wr (wr.setCell ⟨O, j, none⟩ u) := (Mod.refl (· = O) wr).set ⟨O, j, none⟩ _ (.inl rfl)
  refine ⟨h.bel.trans (k.below h.bel.size (fun i hi (e : i = O) => by omega)), ?_⟩
  rw [← e]
  simpa using blk_set h.oo j u
/-- behind a write into a block of another type, newer than B -/
theorem Sw.other (h : Sw B wr O c0 c1 c2 c3) (k : Mod (· = g) wr w1) {cs : Array Value} {t : TypeId} (hg : wr.heap[g]? = some (.cells cs t (0, 0))) (ht : t ≠ 32) (hB : B.heap.size ≤ g) : Sw B w1 O c0 c1 c2 c3 := by
  refine ⟨h.bel.trans (k.below h.bel.size (fun i hi (e : i = g) => by omega)), k.blk h.oo (fun (e : O = g) => ?_)⟩
  subst e
  rw [h.oo] at hg
  simp at hg
  exact ht hg.2.symm
/-- behind an append to a row of its own -/
theorem Sw.grown {α : Type} {d : Kd α} {e : Nat} {base : Nat} {xs : List α} (h : Sw B wr O c0 c1 c2 c3) (hv : d.R e wr base (fun _ => True) v xs) (hg : wr.grownBy w1 v.ownBlock) (he : e ≠ 32) (hb : Below B.heap.size B w1) : Sw B w1 O c0 c1 c2 c3 := by
  refine ⟨hb, (hg.block O (Err.lt_of_block h.oo) (fun e2 => ?_)).trans h.oo⟩
  exact Kd.R_ne hv h.oo he e2
/-- a row of its own goes on behind a write into O -/
theorem row_set {α : Type} {d : Kd α} {e : Nat} {base : Nat} {xs : List α} (h : Sw B wr O c0 c1 c2 c3) (hv : d.R e wr base (fun _ => True) v xs) (ht : ∀ q, q ∈ e :: d.E → q ≠ 32) (j : Nat) (u : Value) : d.R e (wr.setCell ⟨O, j, none⟩ u) base (fun _ => True) v xs :=
  Kd.R_mono (Kd.R_far (p := ⟨O, j, none⟩) (Kd.R_types hv h.oo ht) (fun k hk => hk.2) u) (fun _ _ => trivial)
/-- a row of its own goes on behind an append to a row of another type -/
theorem row_grown {α β : Type} {d : Kd α} {d2 : Kd β} {e e2 : Nat} {base base2 : Nat} {xs : List α} {ys : List β} (hv : d.R e wr base (fun _ => True) v xs) (hE : d.E = []) (h2 : d2.R e2 wr base2 (fun _ => True) v2 ys) (hg : wr.grownBy w1 v2.ownBlock) (he : e ≠ e2) : d.R e w1 base (fun _ => True) v xs :=
  Kd.R_grown2 hv hE hg (fun k hk hne => by
    obtain ⟨c1, h1⟩ := Kd.R_typed hv k hne.symm
    obtain ⟨c2, h3⟩ := Kd.R_typed h2 k hk
    rw [h1] at h3
    simp at h3
    exact he h3.2)
end
theorem own_apart {α β : Type} {d : Kd α} {d2 : Kd β} {e e2 base base2 : Nat} {w : World} {v v2 : Value} {xs : List α} {ys : List β} (h1 : d.R e w base (fun _ => True) v xs) (h2 : d2.R e2 w base2 (fun _ => True) v2 ys) (he : e ≠ e2) : ∀ k, v.ownBlock = some k → v2.ownBlock ≠ some k := fun k hk hk2 => by
  obtain ⟨c1, g1⟩ := Kd.R_typed h1 k hk
  obtain ⟨c2, g2⟩ := Kd.R_typed h2 k hk2
  rw [g1] at g2
  simp at g2
  exact he g2.2
theorem swept_results (tmps : Array Value) (W : World) (b : Nat) (cs : Array Value) (hs : cs.size = 4) (h4 : tmps.getD 2 undef = .pointer (some ⟨b, 0, none⟩)) (h : W.heap[b]? = some (Obj.cells cs 32 (0, 0))) : (results Tryd.f12 tmps).run Tryd.prog W = .ok (.agg cs) W := by
  have hl : (loadVar 32 ⟨b, 0, none⟩).run Tryd.prog W = .ok (.agg cs) W := run_loadVar_row W b 32 32 cs (0, 0) _ h Tryd.underlying32 rfl (by rw [sizeM, hs])
  have h4' : tmps[2]?.getD undef = .pointer (some ⟨b, 0, none⟩) := by simpa using h4
  simp [results, Tryd.results12, asAddr, h4', hl]
set_option maxHeartbeats 8000000 in
set_option maxRecDepth 100000 in
theorem swept_yes (o : Loc) (m : Man) (nm : List Bool) (W : World) (h : Hid (At W o m)) (hN : Hid (named m = some nm)) (hr : m.refs.length ≤ 1000) (hs : m.stack.length ≤ 1000) (hq : m.snaps.length ≤ 1000) (hql : Hid (∀ l ∈ m.snaps, l.length ≤ 1000)) :
    Calls Tryd.prog 12 #[.agg (o.a m)] W fun e w' => ∃ o' : Loc, e = .returned (.agg (o'.a (sweptM m nm))) ∧ At w' o' (sweptM m nm) ∧ Below W.heap.size W w' := by
  obtain ⟨hnl, hfine, _⟩ := named_fine hN.out
  have hstk : ∀ x ∈ m.stack, 0 ≤ x ∧ x < m.refs.length := (hfine m.stack List.mem_cons_self).1
  have hsnp : ∀ l ∈ m.snaps, ∀ x ∈ l, 0 ≤ x ∧ x < m.refs.length := fun l hl => (hfine l (by unfold stacks; exact List.mem_cons_of_mem _ (List.mem_append_right _ hl))).1
  have hupr : m.upper ≠ -1 → 0 ≤ m.upper ∧ m.upper < m.refs.length := fun hu => (hfine [m.upper] (by unfold stacks; rw [if_neg hu]; exact List.mem_cons_of_mem _ (List.mem_append_left _ List.mem_cons_self))).1 m.upper List.mem_cons_self
  have HStk := Lib.hid hstk
  have HSnp := Lib.hid hsnp
  have HUpr := Lib.hid hupr
  obtain ⟨n, hn⟩ : ∃ n, m.refs.length = n := ⟨_, rfl⟩
  have HNl := Lib.hid (hnl.trans hn)
  have HNr := Lib.hid hn
  rw [hn] at hr
  clear hnl hfine hstk hsnp hupr hn
  go_enter Tryd.func12, Tryd.ntmps12
  go_upto_region 1 with (first | (refine wl_allocM rfl rfl ?_))
  have hb1 : Below W.heap.size W (W.alloc (Obj.cells (o.a m) 32 (0, 0))) := (Below.refl _ _).alloc (Nat.le_refl _) _
  have hX1 := heap_alloc_last W (Obj.cells (o.a m) 32 (0, 0))
  generalize (W.alloc (Obj.cells (o.a m) 32 (0, 0))) = w1 at *
  have hb2 : Below w1.heap.size w1 (w1.alloc (Obj.cells #[.slice none 0 0, .slice none 0 0, .int .i64 0, .slice none 0 0] 32 (0, 0))) := (Below.refl _ _).alloc (Nat.le_refl _) _
  have hZ2 := heap_alloc_last w1 (Obj.cells #[.slice none 0 0, .slice none 0 0, .int .i64 0, .slice none 0 0] 32 (0, 0))
  have hX2 := (hb2.block _ (Err.lt_of_block hX1)).trans hX1
  have hB2 : Below W.heap.size W (w1.alloc (Obj.cells #[.slice none 0 0, .slice none 0 0, .int .i64 0, .slice none 0 0] 32 (0, 0))) := hb1.trans (hb2.mono hb1.size)
  have hWZ := hb1.size
  obtain ⟨X, hX⟩ : ∃ X, W.heap.size = X := ⟨_, rfl⟩
  obtain ⟨Z, hZ⟩ : ∃ Z, w1.heap.size = Z := ⟨_, rfl⟩
  simp only [Act.put, List.setIfInBounds_toArray, List.set_cons_zero, List.set_cons_succ]
  rw [hX] at hX2
  rw [hZ] at hZ2 hWZ
  simp only [hX, hZ]
  generalize (w1.alloc (Obj.cells #[.slice none 0 0, .slice none 0 0, .int .i64 0, .slice none 0 0] 32 (0, 0))) = w2 at *
  have HX2 := Lib.hid hX2
  have HZ2 := Lib.hid hZ2
  have HB2 := Lib.hid hB2
  have HA2 := Lib.hid (h.out.on hB2)
  clear hb1 hb2 hX1 hX2 hZ2 hB2 hX hZ
  go_wp2_with (first | (refine wl_loadM X o m HX2.out rfl _ rfl rfl ?_))
  refine (named_c o m w2 HA2 (by omega) (by rw [HNr.out]; omega)).mono ?_
  rintro e w3 ⟨An, cn, rfl, hcn, hCn, hd⟩
  rw [hN.out] at hcn hCn ⊢
  simp only [Option.getD_some, Option.isSome_some] at hcn hCn ⊢
  have HC3 := Lib.hid hCn
  rw [HNl.out] at hcn ⊢
  have HX3 := blk_to HX2 hd
  have HZ3 := blk_to HZ2 hd
  have HB3 := below_to HB2 (Nat.le_refl _) hd
  have HA3 := Lib.hid (HA2.out.on hd)
  clear hd hCn HX2 HZ2 HB2 HA2
  go_upto_region 5 with (first
    | (refine wl_allocM rfl rfl ?_)
    | (refine wl_storeMn #[.slice none 0 0, .slice none 0 0, .int .i64 0, .slice none 0 0] rfl ⟨none, 0, none, 0, none, 0⟩ emptyM rfl _ _ rfl rfl rfl ?_))
  have hd : Below w3.heap.size w3 (w3.alloc (Obj.cells (Loc.a ⟨none, 0, none, 0, none, 0⟩ emptyM) 32 (0, 0))) := (Below.refl _ _).alloc (Nat.le_refl _) _
  have hO4 := heap_alloc_last w3 (Obj.cells (Loc.a ⟨none, 0, none, 0, none, 0⟩ emptyM) 32 (0, 0))
  have HS4 := Lib.hid (show Sw w3 (w3.alloc (Obj.cells (Loc.a ⟨none, 0, none, 0, none, 0⟩ emptyM) 32 (0, 0))) w3.heap.size (.slice none 0 0) (.slice none 0 0) (.int .i64 (-1)) (.slice none 0 0) from ⟨hd, hO4⟩)
  have hXO := Err.lt_of_block HX3.out
  have hZO := Err.lt_of_block HZ3.out
  obtain ⟨O, hO⟩ : ∃ O, w3.heap.size = O := ⟨_, rfl⟩
  have hOw : w3.heap.size ≤ O := Nat.le_of_eq hO
  rw [hO] at HS4 hXO hZO
  simp only [hO]
  generalize (w3.alloc (Obj.cells (Loc.a ⟨none, 0, none, 0, none, 0⟩ emptyM) 32 (0, 0))) = w4 at *
  have HOw := Lib.hid hOw
  have hXw : X < w3.heap.size := Err.lt_of_block HX3.out
  have hZw : Z < w3.heap.size := Err.lt_of_block HZ3.out
  clear hd hO4 hO hOw
  go_upto_region 6 with (first
    | (refine Kd.R_make (Kd.int .i64) (w0 := w3) w3.heap.size 3 rfl (N := 22) rfl 23 _ _ rfl (n : Int) rfl rfl Tryd.underlying23 (.int .i64 0) 8 infoI rfl (by decide) (by decide) 0 (ok := fun _ => True) (okp := fun _ => True) rfl (fun _ hk => hk) trivial (by omega) (by omega) HS4.out.bel HS4.out.bel.size ?_
       intro u w5 hrow hb hg hnew))
  rw [Int.toNat_natCast] at hrow
  obtain ⟨Aa, ca, rfl⟩ := Kd.R_slice hrow
  rw [List.length_replicate]
  have HR5 := Lib.hid hrow
  have HS5 := Lib.hid (HS4.out.on (grown_none hg))
  have hnc : n ≤ ca := by have := (Kd.R_reads' hrow).2.1; rw [List.length_replicate] at this; exact this
  clear hrow hb hg hnew HS4
  go_wp2_with fail
  go_loopg [25] n (fun kq v25 wr => ∃ (k : Nat) (al : List Int) (u : Value), v25 = .int .i64 (k : Int) ∧ kq + k = n ∧ Hid (Sw w3 wr O u (.slice none 0 0) (.int .i64 (-1)) (.slice none 0 0)) ∧ Hid (rk.R 56 wr w3.heap.size (fun _ => True) u (keepR (nm.take k) (m.refs.take k))) ∧ Hid ((Kd.int .i64).R 3 wr w3.heap.size (fun _ => True) (.slice Aa n ca) al) ∧ Hid (al.length = n ∧ ∀ i : Nat, i < k → rd al (i : Int) = cnt nm (i : Int)))
  case atStart => exact ⟨0, List.replicate n 0, _, rfl, by omega, HS5, Lib.hid (Kd.R_nil _ _ _ _ _), by rw [List.length_replicate] at HR5; exact HR5, Lib.hid ⟨List.length_replicate .., fun i hi => absurd hi (Nat.not_lt_zero _)⟩⟩
  case round =>
    clear HS5 HR5
    obtain ⟨k, al, u, rfl, hk, HS, HR, HA, HL⟩ := hrel
    generalize wr = w6 at *
    cases gk with
    | zero =>
      have hkn : k = n := by omega
      have c1 : decide ((k : Int) < (n : Int)) = false := decide_eq_false (by omega)
      have c1b : decide (k < n) = false := decide_eq_false (by omega)
      have HR6 := Lib.hid (show rk.R 56 w6 w3.heap.size (fun _ => True) u (sweptM m nm).refs from by
        have z := HR.out
        rw [hkn, show nm.take n = nm from by rw [← HNl.out, List.take_length], show m.refs.take n = m.refs from by rw [← HNr.out, List.take_length]] at z
        exact z)
      have hal := HL.out.1
      have hcnt : ∀ x : Int, 0 ≤ x → x < n → rd al x = cnt nm x := fun x h0 h1 => by
        have := HL.out.2 x.toNat (by omega)
        rw [show ((x.toNat : Nat) : Int) = x by omega] at this
        exact this
      have HCnt := Lib.hid hcnt
      obtain ⟨ux, un, uc, rfl⟩ := r_sl HR6.out
      have HS6 := HS
      have HA6 := HA
      clear HR HS HA HL hkn hk hcnt
      have hXc := box_cells (Lib.hid ((HS6.out.bel.block X hXw).trans HX3.out))
      have k1c := hXc.2.1
      obtain ⟨ns, hns⟩ : ∃ ns, m.stack.length = ns := ⟨_, rfl⟩
      rw [hns] at k1c hs
      have HNs := Lib.hid hns
      clear hXc hns
      go_wp2_with fail
      refine (told_c o.p1 o.c1 m.stack Aa ca al ns n w6 (sweptM m nm).stack HNs.out hal (by omega) (fun x hx => by have := HStk.out x hx; rw [HNr.out] at this; rw [hal]; exact this) (by rw [← HNs.out]; exact HA3.out.sc) hnc (Kd.C_below HA3.out.s HS6.out.bel) (Kd.R_reads' HA6.out).2.2 (List.map_congr_left (fun x hx => by have := HStk.out x hx; rw [HNr.out] at this; exact HCnt.out x this.1 this.2))).mono ?_
      rintro e w7 ⟨v1, rfl, hv1, hd⟩
      have HS7 := Lib.hid (HS6.out.on hd)
      have HR7 := Lib.hid (Kd.R_below HR6.out hd)
      have HA7 := Lib.hid (Kd.R_below HA6.out hd)
      have HT7 := Lib.hid (Kd.R_lower hv1 HS6.out.bel.size)
      obtain ⟨tx, tn, tc, rfl⟩ := r_sl hv1
      have c9 := Err.cell_of_blk HS7.out.oo 1
      have f9 : w7.frozen? ⟨O, 1, none⟩ = false := by simp [World.frozen?, HS7.out.oo]
      have HS8 := Lib.hid (HS7.out.put HOw.out 1 (.slice tx tn tc) rfl)
      have HR8 := Lib.hid (row_set HS7.out HR7.out (by decide) 1 (.slice tx tn tc))
      have HA8 := Lib.hid (row_set HS7.out HA7.out (by decide) 1 (.slice tx tn tc))
      have HT8 := Lib.hid (row_set HS7.out HT7.out (by decide) 1 (.slice tx tn tc))
      clear hd hv1 HS6 HR6 HA6
      go_upto_region 14 with fail
      generalize (w7.setCell ⟨O, 1, none⟩ (.slice tx tn tc)) = w8 at *
      clear c9 f9 HS7 HR7 HA7 HT7 k1c
      have hXc := box_cells (Lib.hid ((HS8.out.bel.block X hXw).trans HX3.out))
      have k2c := hXc.2.2.1
      clear hXc
      obtain ⟨up, hup⟩ : ∃ up, m.upper = up := ⟨_, rfl⟩
      rw [hup] at k2c
      have HUp := Lib.hid hup
      clear hup
      go_upto_if 55 with fail
      go_cut [] (fun wc => Hid (Sw w3 wc O (.slice ux un uc) (.slice tx tn tc) (.int .i64 (sweptM m nm).upper) (.slice none 0 0)) ∧ Hid (rk.R 56 wc w3.heap.size (fun _ => True) (.slice ux un uc) (sweptM m nm).refs) ∧ Hid ((Kd.int .i64).R 3 wc w3.heap.size (fun _ => True) (.slice Aa n ca) al) ∧ Hid ((Kd.int .i64).R 3 wc w3.heap.size (fun _ => True) (.slice tx tn tc) (sweptM m nm).stack))
      case first =>
        by_cases hu : up = -1
        · subst hu
          have e0 : (sweptM m nm).upper = -1 := by show (if m.upper = -1 then -1 else cnt nm m.upper) = -1; rw [if_pos HUp.out]
          go_wp2_with fail
          go_meet
          exact ⟨Lib.hid (by rw [e0]; exact HS8.out), HR8, HA8, HT8⟩
        · have t1 : (up == -1) = false := beq_eq_false_iff_ne.2 hu
          have t1b : (up != -1) = true := by rw [bne, t1]; rfl
          have t1c : decide (up = -1) = false := decide_eq_false hu
          have e0 : (sweptM m nm).upper = cnt nm up := by show (if m.upper = -1 then -1 else cnt nm m.upper) = _; rw [HUp.out, if_neg hu]
          have hub := HUpr.out (by rw [HUp.out]; exact hu)
          rw [HUp.out, HNr.out] at hub
          have p1 : (0 ≤ up) = True := eq_true hub.1
          have p2 : (up < (n : Int)) = True := eq_true hub.2
          obtain ⟨ad, rfl, hcell⟩ := Kd.at_int (Kd.R_reads' HA8.out).2.2 up hub.1 (by rw [hal]; exact hub.2)
          rw [HCnt.out up hub.1 hub.2] at hcell
          have c9 := Err.cell_of_blk HS8.out.oo 2
          have f9 : w8.frozen? ⟨O, 2, none⟩ = false := by simp [World.frozen?, HS8.out.oo]
          have HS9 := Lib.hid (HS8.out.put HOw.out 2 (.int .i64 (cnt nm up)) rfl)
          have HR9 := Lib.hid (row_set HS8.out HR8.out (by decide) 2 (.int .i64 (cnt nm up)))
          have HA9 := Lib.hid (row_set HS8.out HA8.out (by decide) 2 (.int .i64 (cnt nm up)))
          have HT9 := Lib.hid (row_set HS8.out HT8.out (by decide) 2 (.int .i64 (cnt nm up)))
          obtain ⟨cv, hcv⟩ : ∃ cv, cnt nm up = cv := ⟨_, rfl⟩
          rw [hcv] at hcell HS9 HR9 HA9 HT9 e0
          clear hu hub HS8 HR8 HA8 HT8 hcv
          go_wp2_with fail
          go_meet
          exact ⟨Lib.hid (by rw [e0]; exact HS9.out), HR9, HA9, HT9⟩
      case rest =>
        clear HS8 HR8 HA8 HT8 k2c
        obtain ⟨HS8, HR8, HA8, HT8⟩ := hcut
        generalize wc = w9 at *
        have hXc := box_cells (Lib.hid ((HS8.out.bel.block X hXw).trans HX3.out))
        have k3c := hXc.2.2.2
        obtain ⟨q, hqn⟩ : ∃ q, m.snaps.length = q := ⟨_, rfl⟩
        obtain ⟨P3, hP3⟩ : ∃ P, o.p3 = P := ⟨_, rfl⟩
        rw [hqn, hP3] at k3c
        rw [hqn] at hq
        have HQ := Lib.hid hqn
        have HP3 := Lib.hid hP3
        obtain ⟨sup, hsup⟩ : ∃ s, (sweptM m nm).upper = s := ⟨_, rfl⟩
        rw [hsup] at HS8
        have HSup := Lib.hid hsup
        clear hXc hqn hP3 hsup
        go_wp2_with fail
        clear k3c
        go_loopg [65] q (fun kq v65 wr => ∃ (j : Nat) (sn : Value), v65 = .int .i64 (j : Int) ∧ kq + j = q ∧ Hid (Sw w3 wr O (.slice ux un uc) (.slice tx tn tc) (.int .i64 sup) sn) ∧ Hid (rk.R 56 wr w3.heap.size (fun _ => True) (.slice ux un uc) (sweptM m nm).refs) ∧ Hid ((Kd.int .i64).R 3 wr w3.heap.size (fun _ => True) (.slice Aa n ca) al) ∧ Hid ((Kd.int .i64).R 3 wr w3.heap.size (fun _ => True) (.slice tx tn tc) (sweptM m nm).stack) ∧ Hid (lk.R 23 wr w3.heap.size (fun _ => True) sn ((m.snaps.take j).map (fun l => l.map (cnt nm)))))
        case atStart => exact ⟨0, _, rfl, by omega, HS8, HR8, HA8, HT8, Lib.hid (Kd.R_nil _ _ _ _ _)⟩
        case round =>
          clear HS8 HR8 HA8 HT8
          obtain ⟨j, sn, rfl, hk2, HS, HR, HA, HT, HN⟩ := hrel
          generalize wr = w10 at *
          obtain ⟨sp, sl, sc, rfl⟩ := r_sl HN.out
          cases gk with
          | zero =>
            have hj : j = q := by omega
            have d1 : decide ((j : Int) < (q : Int)) = false := decide_eq_false (by omega)
            have d1b : decide (j < q) = false := decide_eq_false (by omega)
            have HN2 := Lib.hid (show lk.R 23 w10 w3.heap.size (fun _ => True) (.slice sp sl sc) (sweptM m nm).snaps from by
              have z := HN.out
              rw [hj, show m.snaps.take q = m.snaps from by rw [← HQ.out, List.take_length]] at z
              exact z)
            have g0 := Kd.R_reads' HR.out
            have g1 := Kd.R_reads' HT.out
            have g3 := Kd.R_reads' HN2.out
            have hoa : (Loc.a ⟨ux, uc, tx, tc, sp, sc⟩ (sweptM m nm)) = #[.slice ux un uc, .slice tx tn tc, .int .i64 sup, .slice sp sl sc] := by
              unfold Loc.a
              rw [← g0.1, ← g1.1, ← g3.1, HSup.out]
            have HOo := Lib.hid (show w10.heap[O]? = some (Obj.cells (Loc.a ⟨ux, uc, tx, tc, sp, sc⟩ (sweptM m nm)) 32 (0, 0)) by rw [hoa]; exact HS.out.oo)
            have HZz := Lib.hid ((HS.out.bel.block Z hZw).trans HZ3.out)
            have HAt := Lib.hid (show At w10 ⟨ux, uc, tx, tc, sp, sc⟩ (sweptM m nm) from ⟨g0.2.2, by rw [← g0.1]; exact g0.2.1, g1.2.2, by rw [← g1.1]; exact g1.2.1, g3.2.2, by rw [← g3.1]; exact g3.2.1⟩)
            have HBel := Lib.hid (HB3.out.trans (HS.out.bel.mono HB3.out.size))
            have HRw := HR
            have HTw := HT
            clear hj hk2 g0 g1 g3 hoa HN HR HT HA
            go_wp2_with (first
              | (refine wl_loadM O ⟨ux, uc, tx, tc, sp, sc⟩ (sweptM m nm) HOo.out rfl _ rfl rfl ?_)
              | (refine wl_storeM Z #[.slice none 0 0, .slice none 0 0, .int .i64 0, .slice none 0 0] rfl ⟨ux, uc, tx, tc, sp, sc⟩ (sweptM m nm) HZz.out rfl _ _ rfl rfl rfl ?_))
            (try simp only [Exit.inBlock, Exit.then])
            refine bodyPost_ret (v := .agg (Loc.a ⟨ux, uc, tx, tc, sp, sc⟩ (sweptM m nm))) ?_ rfl ?_
            · exact swept_results _ _ Z _ rfl rfl (setRow_heap w10 Z _ _ _ _ HZz.out)
            have hm : Mod (· = Z) w10 (w10.setRow Z (Loc.a ⟨ux, uc, tx, tc, sp, sc⟩ (sweptM m nm))) := mod_row w10 Z _
            have hbel : Below W.heap.size W (w10.setRow Z (Loc.a ⟨ux, uc, tx, tc, sp, sc⟩ (sweptM m nm))) := HBel.out.trans (hm.below HBel.out.size (fun i hi (e : i = Z) => by omega))
            have r0 := row_on (α := Rf) rfl HRw.out hm (fun b hb (e : b = Z) => by
              obtain ⟨cells, hc⟩ := Kd.R_typed HRw.out b hb
              rw [e, HZz.out] at hc
              simp at hc)
            have r1 := row_on (α := Int) rfl HTw.out hm (fun b hb (e : b = Z) => by
              obtain ⟨cells, hc⟩ := Kd.R_typed HTw.out b hb
              rw [e, HZz.out] at hc
              simp at hc)
            have r3 : lk.R 23 (w10.setRow Z (Loc.a ⟨ux, uc, tx, tc, sp, sc⟩ (sweptM m nm))) w3.heap.size (fun k => True ∧ k ≠ Z) (.slice sp sl sc) (sweptM m nm).snaps :=
              Kd.R_step (Kd.R_types HN2.out HZz.out (by decide)) (fun k hk hlt => hm.block k hlt hk.2)
            have g0 := Kd.R_reads' r0
            have g1 := Kd.R_reads' r1
            have g3 := Kd.R_reads' r3
            exact ⟨⟨ux, uc, tx, tc, sp, sc⟩, rfl, ⟨g0.2.2, HAt.out.rc, g1.2.2, HAt.out.sc, g3.2.2, HAt.out.nc⟩, hbel⟩
          | succ k2 =>
            have hj : j < q := by omega
            have hjl : j < m.snaps.length := by rw [HQ.out]; exact hj
            have d1 : decide ((j : Int) < (q : Int)) = true := decide_eq_true (by omega)
            have d1b : decide (j < q) = true := decide_eq_true hj
            have p1 : (0 ≤ (j : Int)) = True := eq_true (by omega)
            have p2 : ((j : Int) < (q : Int)) = True := eq_true (by omega)
            have q5 : IntKind.i64.wrap ((j : Int) + 1) = (j : Int) + 1 := IntWalk.i64_in _ (by omega)
            obtain ⟨ad, A0, a0, ead, hcell, hla, hCl⟩ := at_L1 (Kd.C_below HA3.out.n HS.out.bel) (j : Int) (by omega) (by omega)
            rw [rd_L1_get m.snaps j hjl] at hcell hla hCl
            simp only [Int.toNat_natCast] at hcell
            have hin := HSnp.out m.snaps[j] (List.getElem_mem hjl)
            have hll := hql.out m.snaps[j] (List.getElem_mem hjl)
            have HSn := Lib.hid (show (m.snaps.take (j + 1)).map (fun l => l.map (cnt nm)) = (m.snaps.take j).map (fun l => l.map (cnt nm)) ++ [m.snaps[j].map (cnt nm)] by
              rw [← List.take_append_getElem hjl, List.map_append]
              rfl)
            obtain ⟨l, hl⟩ : ∃ l, m.snaps[j] = l := ⟨_, rfl⟩
            rw [hl] at hcell hla hCl hin hll HSn
            obtain ⟨ll, hlln⟩ : ∃ ll, l.length = ll := ⟨_, rfl⟩
            rw [hlln] at hcell hla hll
            obtain rfl : P3 = some ad := by rw [← HP3.out]; exact ead
            have hjq : ((m.snaps.take j).map (fun l => l.map (cnt nm))).length ≤ 1000 := by rw [List.length_map, List.length_take]; omega
            have htold : l.map (fun x => rd al x) = l.map (cnt nm) := List.map_congr_left (fun x hx => by have := hin x hx; rw [HNr.out] at this; exact HCnt.out x this.1 this.2)
            have hinr : ∀ x ∈ l, 0 ≤ x ∧ x < al.length := fun x hx => by have := hin x hx; rw [HNr.out] at this; rw [hal]; exact this
            have HCl := Lib.hid hCl
            have HLn := Lib.hid hlln
            have HTo := Lib.hid htold
            have HIn := Lib.hid hinr
            clear hl hCl ead hin htold hinr hlln
            have hS := fun {w' : World} (q : Sw w3 w' O (.slice ux un uc) (.slice tx tn tc) (.int .i64 sup) (.slice sp sl sc)) => (show w'.cell? ⟨O, 3, none⟩ = some (.slice sp sl sc) from Err.cell_of_blk q.oo 3)
            go_wp2_with fail
            have HSd := Lib.hid (HS.out.on (Below.refl _ _).drew)
            have HRd := Lib.hid (Kd.R_drew HR.out)
            have HAd := Lib.hid (Kd.R_drew HA.out)
            have HTd := Lib.hid (Kd.R_drew HT.out)
            have HNd := Lib.hid (Kd.R_drew HN.out)
            have HCd := Lib.hid (Kd.C_below HCl.out (Below.refl _ _).drew)
            refine start_ (n := 9) (S := fun w' => w'.cell? ⟨O, 3, none⟩ = some (.slice sp sl sc)) (ds := [8]) #[false, false, false, false, false, false, false, false, false] (by kernel_rfl) rfl rfl ((hS HSd.out)) (fun hHeld => ?_)
            refine pure_ (i := 0) (N := some 69) (v := ?_) (a' := ?_) #[true, false, false, false, false, false, false, false, false] rfl rfl (by kernel_rfl) (fun _ _ _ h => h) (Or.inl ⟨by rfl, ?_⟩) ?_ ?_
            rotate_left
            · intro w'
              go_simp
              with_reducible rfl
            rotate_left
            · simp only [Act.put, List.setIfInBounds_toArray, List.set_cons_zero, List.set_cons_succ, i64_w, i32_w]
              rfl
            refine pure_ (i := 2) (N := some 71) (v := ?_) (a' := ?_) #[true, false, true, false, false, false, false, false, false] rfl rfl (by kernel_rfl) (fun _ _ _ h => h) (Or.inl ⟨by rfl, ?_⟩) ?_ ?_
            rotate_left
            · intro w'
              go_simp
              with_reducible rfl
            rotate_left
            · simp only [Act.put, List.setIfInBounds_toArray, List.set_cons_zero, List.set_cons_succ, i64_w, i32_w]
              rfl
            refine pure_ (i := 3) (N := some 72) (v := ?_) (a' := ?_) #[true, false, true, true, false, false, false, false, false] rfl rfl (by kernel_rfl) (fun _ _ _ h => h) (Or.inl ⟨by rfl, ?_⟩) ?_ ?_
            rotate_left
            · intro w'
              go_simp
              with_reducible rfl
            rotate_left
            · simp only [Act.put, List.setIfInBounds_toArray, List.set_cons_zero, List.set_cons_succ, i64_w, i32_w]
              rfl
            refine take_ (i := 1) (N := some 70) (v := ?_) (a' := ?_) #[true, true, true, true, false, false, false, false, false] rfl rfl (by kernel_rfl) (fun _ _ _ h => h) (Or.inl ⟨by rfl, ?_⟩) hHeld ?_ ?_
            rotate_left
            · intro w' s0
              go_simp
              with_reducible rfl
            rotate_left
            · simp only [Act.put, List.setIfInBounds_toArray, List.set_cons_zero, List.set_cons_succ, i64_w, i32_w]
              rfl
            refine one_ (i := 4) (N := some 73) #[true, true, true, true, true, false, false, false, false] rfl rfl (by kernel_rfl) (by decide) (fun K hK => ?_)
            refine goes_ Tryd.func21 (by kernel_rfl) rfl #[.slice A0 ll a0, .slice Aa n ca] (by rfl) rfl rfl (by simp only [List.map_toArray, List.map_cons, List.map_nil]; rfl) ?_
            with_reducible refine (told_c A0 a0 l Aa ca al ll n _ (l.map (cnt nm)) HLn.out hal (by omega) HIn.out hla hnc HCd.out (Kd.R_reads' HAd.out).2.2 HTo.out).mono ?_
            rintro e w11 ⟨v1, rfl, hv1, hd⟩
            refine ⟨_, rfl, ?_⟩
            have HSe := Lib.hid (HSd.out.on hd)
            have HRe := Lib.hid (Kd.R_below HRd.out hd)
            have HAe := Lib.hid (Kd.R_below HAd.out hd)
            have HTe := Lib.hid (Kd.R_below HTd.out hd)
            have HNe := Lib.hid (Kd.R_below HNd.out hd)
            have HVe := Lib.hid (Kd.R_lower hv1 HSd.out.bel.size)
            obtain ⟨vx, vn, vc, rfl⟩ := r_sl hv1
            clear hd hv1
            refine hK.out _ _ ((hS HSe.out)) (fun hHeld => ?_)
            clear hK K
            refine norm_ (a' := ?_) ?_ ?_
            rotate_left
            · show Act.put _ (some 73) _ = _
              simp only [Act.put, List.setIfInBounds_toArray, List.set_cons_zero, List.set_cons_succ, i64_w, i32_w]
              rfl
            refine one_ (i := 5) (N := some 74) #[true, true, true, true, true, true, false, false, false] rfl rfl (by kernel_rfl) (by decide) (fun K hK => ?_)
            refine value_ (by rfl) rfl (exec_litL rfl rfl _) ?_
            have hd : Below w11.heap.size w11 (World.alloc w11 (Obj.cells #[.slice vx vn vc] 23 (0, 0))) := (Below.refl _ _).alloc (Nat.le_refl _) _
            have HSf := Lib.hid (HSe.out.on hd)
            have HRf := Lib.hid (Kd.R_below HRe.out hd)
            have HAf := Lib.hid (Kd.R_below HAe.out hd)
            have HTf := Lib.hid (Kd.R_below HTe.out hd)
            have HNf := Lib.hid (Kd.R_below HNe.out hd)
            have HVf := Lib.hid (Kd.R_below HVe.out hd)
            have HLf := Lib.hid (heap_alloc_last w11 (Obj.cells #[.slice vx vn vc] 23 (0, 0)))
            generalize (World.alloc w11 (Obj.cells #[.slice vx vn vc] 23 (0, 0))) = z7 at *
            clear hd
            refine hK.out _ _ ((hS HSf.out)) (fun hHeld => ?_)
            clear hK K
            refine norm_ (a' := ?_) ?_ ?_
            rotate_left
            · show Act.put _ (some 74) _ = _
              simp only [Act.put, List.setIfInBounds_toArray, List.set_cons_zero, List.set_cons_succ, i64_w, i32_w]
              rfl
            refine one_ (i := 6) (N := some 75) #[true, true, true, true, true, true, true, false, false] rfl rfl (by kernel_rfl) (by decide) (fun K hK => ?_)
            have hM : lk.M z7 w3.heap.size (fun k => True ∧ some k ≠ (Value.slice sp sl sc).ownBlock) (l.map (cnt nm)) [.slice vx vn vc] := ⟨_, rfl, Kd.R_mono (Kd.R_tight rfl HVf.out) (fun k hk => ⟨trivial, fun e2 => own_apart HVf.out HNf.out (by decide) k hk.symm e2.symm⟩)⟩
            refine Kd.R_append_rows_step lk (w0 := w3) w3.heap.size (by rfl) (.tmp 70) (.tmp 74) 24 23 (.slice none 0 0) 24 (by rfl) Tryd.underlying24 infoV rfl (by decide) (by decide) (.slice sp sl sc) ((m.snaps.take j).map (fun l => l.map (cnt nm))) [l.map (cnt nm)] _ _ _ (fun _ => True) (fun k => True ∧ some k ≠ (Value.slice sp sl sc).ownBlock) (by rfl) (by rfl) HNf.out (readsL _ _ _ _ (lk.M z7 w3.heap.size (fun k => True ∧ some k ≠ (Value.slice sp sl sc).ownBlock)) HLf.out hM) (fun _ _ h => h) (fun _ h => h) (fun _ _ => trivial) HSf.out.bel HSf.out.bel.size (by omega) ?_
            intro v8 w8 ho hb hg hn
            have HS8 := Lib.hid (HSf.out.grown HNf.out hg (by decide) hb)
            have HR8 := Lib.hid (row_grown HRf.out rfl HNf.out hg (by decide))
            have HA8 := Lib.hid (row_grown HAf.out rfl HNf.out hg (by decide))
            have HT8 := Lib.hid (row_grown HTf.out rfl HNf.out hg (by decide))
            have HN8 := Lib.hid ho
            obtain ⟨A8, m8, k8, rfl⟩ := r_sl ho
            have c9 := Err.cell_of_blk HS8.out.oo 3
            have f9 : w8.frozen? ⟨O, 3, none⟩ = false := by simp [World.frozen?, HS8.out.oo]
            clear ho hb hg hn hM
            refine hK.out _ _ ((hS HS8.out)) (fun hHeld => ?_)
            clear hK K
            refine norm_ (a' := ?_) ?_ ?_
            rotate_left
            · show Act.put _ (some 75) _ = _
              simp only [Act.put, List.setIfInBounds_toArray, List.set_cons_zero, List.set_cons_succ, i64_w, i32_w]
              rfl
            refine pure_ (i := 7) (N := some 76) (v := ?_) (a' := ?_) #[true, true, true, true, true, true, true, true, false] rfl rfl (by kernel_rfl) (fun _ _ _ h => h) (Or.inl ⟨by rfl, ?_⟩) ?_ ?_
            rotate_left
            · intro w'
              go_simp
              with_reducible rfl
            rotate_left
            · simp only [Act.put, List.setIfInBounds_toArray, List.set_cons_zero, List.set_cons_succ, i64_w, i32_w]
              rfl
            refine last_ (i := 8) (N := none) #[true, true, true, true, true, true, true, true, true] rfl rfl (by kernel_rfl) (by decide) (fun K hK => ?_)
            refine skip_ (w1 := ?_) (by rfl) rfl ?_ ?_
            rotate_left
            · go_simp
              rfl
            refine hK.out _ _ ?_
            clear hK K
            refine done_ (by kernel_rfl) ?_
            have HS9 := Lib.hid (HS8.out.put HOw.out 3 (.slice A8 m8 k8) rfl)
            have HR9 := Lib.hid (row_set HS8.out HR8.out (by decide) 3 (.slice A8 m8 k8))
            have HA9 := Lib.hid (row_set HS8.out HA8.out (by decide) 3 (.slice A8 m8 k8))
            have HT9 := Lib.hid (row_set HS8.out HT8.out (by decide) 3 (.slice A8 m8 k8))
            have HN9 := Lib.hid (row_set HS8.out HN8.out (by decide) 3 (.slice A8 m8 k8))
            generalize (w8.setCell ⟨O, 3, none⟩ (.slice A8 m8 k8)) = w12 at *
            clear HS8 HR8 HA8 HT8 HN8 c9 f9 HLf HVf HSf HRf HAf HTf HNf HSe HRe HAe HTe HNe HVe
            clear hHeld hS HSd HRd HAd HTd HNd HCd
            go_wp2_with fail
            go_roundg k2
            case measure => exact Nat.lt_succ_self _
            case rel => exact ⟨j + 1, _, by simp, by omega, HS9, HR9, HA9, HT9, Lib.hid (by rw [HSn.out]; exact HN9.out)⟩
    | succ k1 =>
      have hkn : k < n := by omega
      have hkl : k < nm.length := by rw [HNl.out]; exact hkn
      have hkr : k < m.refs.length := by rw [HNr.out]; exact hkn
      have c1 : decide ((k : Int) < (n : Int)) = true := decide_eq_true (by omega)
      have c1b : decide (k < n) = true := decide_eq_true hkn
      have p1 : (0 ≤ (k : Int)) = True := eq_true (by omega)
      have p2 : ((k : Int) < (n : Int)) = True := eq_true (by omega)
      have q5 : IntKind.i64.wrap ((k : Int) + 1) = (k : Int) + 1 := IntWalk.i64_in _ (by omega)
      obtain ⟨ad, rfl, hcell⟩ := Kd.at_bool (Kd.C_below HC3.out HS.out.bel) (k : Int) (by omega) (by rw [HNl.out]; omega)
      have ebk : rdOf false nm (k : Int) = nm[k] := by unfold rdOf; simp [List.getD_eq_getElem?_getD, List.getElem?_eq_getElem hkl]
      rw [ebk, Int.toNat_natCast] at hcell
      obtain ⟨ux, un, uc, rfl⟩ := r_sl HR.out
      have hun : un = (nm.take k).count true := by
        rw [← keepR_len (nm.take k) (m.refs.take k) (by rw [List.length_take, List.length_take]; omega)]
        exact (Kd.R_reads' HR.out).1
      have hunb : un ≤ 1000 := by rw [hun]; exact Nat.le_trans List.count_le_length (by rw [List.length_take]; omega)
      have HUn := Lib.hid hun
      have HKs := Lib.hid (keepR_snoc nm m.refs (by rw [HNl.out, HNr.out]) k hkr)
      obtain ⟨b, hb⟩ : ∃ b, nm[k] = b := ⟨_, rfl⟩
      rw [hb] at hcell
      have HBk := Lib.hid hb
      have hal := HL.out.1
      obtain ⟨g, cap, eg, hgB, _, cells, hgc⟩ := Kd.R_form HA.out (by rw [hal]; omega)
      have e1 : Aa = some ⟨g, 0, none⟩ := by injection eg
      clear eg ebk hb hun
      subst e1
      obtain ⟨hcl, hfz⟩ := Kd.R_celln 0 HA.out (k : Int) (by omega) (by omega)
      rw [Int.toNat_natCast] at hcl hfz
      have k0 := Err.cell_of_blk HS.out.oo 0
      have k0' : w6.cell? ⟨O, 0, none⟩ = some (.slice ux un uc) := k0
      have hput := Kd.R_putn HA.out (k : Int) (un : Int)
      rw [Int.toNat_natCast] at hput
      have km : Mod (· = g) w6 (w6.setCell ⟨g, k, none⟩ (.int .i64 (un : Int))) := (Mod.refl (· = g) w6).set ⟨g, k, none⟩ _ (.inl rfl)
      have HA7 := Lib.hid hput
      have HS7 := Lib.hid (HS.out.other km hgc (by decide) hgB)
      have HR7 := Lib.hid (row_on rfl HR.out km (fun i hi (e : i = g) => by
        obtain ⟨c2, h2⟩ := Kd.R_typed HR.out i hi
        rw [e, hgc] at h2
        simp at h2))
      have HL7 := Lib.hid (show (al.set k (un : Int)).length = n ∧ ∀ i : Nat, i < k + 1 → rd (al.set k (un : Int)) (i : Int) = cnt nm (i : Int) from ⟨by rw [List.length_set]; exact hal, fun i hi => by
        unfold rd
        rw [Int.toNat_natCast, List.getD_eq_getElem?_getD, List.getElem?_set]
        by_cases e : k = i
        · subst e
          rw [if_pos rfl, if_pos (by omega), cnt_nat, HUn.out]
          rfl
        · rw [if_neg e]
          have := HL.out.2 i (by omega)
          unfold rd at this
          rw [Int.toNat_natCast, List.getD_eq_getElem?_getD] at this
          exact this⟩)
      clear hput km k0 hgc hgB hal HUn
      go_upto_region 10 with fail
      generalize (w6.setCell ⟨g, k, none⟩ (.int .i64 (un : Int))) = w7 at *
      clear hcell hcl hfz k0' HS HR HA HL
      cases b with
      | false =>
        have HK2 := Lib.hid (show keepR (nm.take (k + 1)) (m.refs.take (k + 1)) = keepR (nm.take k) (m.refs.take k) by rw [HKs.out, if_neg (by rw [HBk.out]; decide), List.append_nil])
        go_wp2_with fail
        go_roundg k1
        case measure => exact Nat.lt_succ_self _
        case rel => exact ⟨k + 1, _, _, by simp, by omega, HS7, Lib.hid (by rw [HK2.out]; exact HR7.out), HA7, HL7⟩
      | true =>
        obtain ⟨adr, ead, x0, x1, x2⟩ := at_T56 HA3.out.r (k : Int) (by omega) (by omega)
        have ex : rd_T56 m.refs (k : Int) = m.refs[k] := by
          unfold rd_T56
          simp [List.getD_eq_getElem?_getD, List.getElem?_eq_getElem hkr]
        rw [ex] at x0 x1 x2
        simp only [Int.toNat_natCast] at x0 x1 x2
        obtain ⟨x, hx⟩ : ∃ x, m.refs[k] = x := ⟨_, rfl⟩
        rw [hx] at x0 x1 x2
        have HK2 := Lib.hid (show keepR (nm.take (k + 1)) (m.refs.take (k + 1)) = keepR (nm.take k) (m.refs.take k) ++ [x] by rw [HKs.out, if_pos HBk.out, hx])
        have HEad := Lib.hid ead
        have HX0 := Lib.hid x0
        have HX1 := Lib.hid x1
        have HX2 := Lib.hid x2
        have hkl2 : (keepR (nm.take k) (m.refs.take k)).length ≤ 1000 := by rw [← (Kd.R_reads' HR7.out).1]; exact hunb
        clear hx ex ead x0 x1 x2 HKs HBk
        have hS := fun {w' : World} (q : Sw w3 w' O (.slice ux un uc) (.slice none 0 0) (.int .i64 (-1)) (.slice none 0 0)) => (show w'.cell? ⟨O, 0, none⟩ = some (.slice ux un uc) ∧ w'.cell? ⟨X, 0, none⟩ = some (.slice (some adr) n o.c0) ∧ (w'.cell? (adr.add (k * 3)) = some (.int .i64 x.f0) ∧ w'.cell? ⟨(adr.add (k * 3)).block, (adr.add (k * 3)).off + 1, none⟩ = some (.int .i64 x.f1) ∧ w'.cell? ⟨(adr.add (k * 3)).block, (adr.add (k * 3)).off + 2, none⟩ = some (.int .u32 x.f2)) from
          ⟨Err.cell_of_blk q.oo 0, by have z := (box_cells (Lib.hid ((q.bel.block X hXw).trans HX3.out))).1; rw [HNr.out, HEad.out] at z; exact z, (q.bel.cell (World.block_lt_of_cell? w3 _ HX0.out)).trans HX0.out, (q.bel.cell (World.block_lt_of_cell? w3 _ HX1.out)).trans HX1.out, (q.bel.cell (World.block_lt_of_cell? w3 _ HX2.out)).trans HX2.out⟩)
        go_upto_region 11 with fail
        go_wp2_with fail
        have HSd := Lib.hid (HS7.out.on (Below.refl _ _).drew)
        have HRd := Lib.hid (Kd.R_drew HR7.out)
        have HAd := Lib.hid (Kd.R_drew HA7.out)
        refine start_ (n := 11) (S := fun w' => w'.cell? ⟨O, 0, none⟩ = some (.slice ux un uc) ∧ w'.cell? ⟨X, 0, none⟩ = some (.slice (some adr) n o.c0) ∧ (w'.cell? (adr.add (k * 3)) = some (.int .i64 x.f0) ∧ w'.cell? ⟨(adr.add (k * 3)).block, (adr.add (k * 3)).off + 1, none⟩ = some (.int .i64 x.f1) ∧ w'.cell? ⟨(adr.add (k * 3)).block, (adr.add (k * 3)).off + 2, none⟩ = some (.int .u32 x.f2))) (ds := [10]) #[false, false, false, false, false, false, false, false, false, false, false] (by kernel_rfl) rfl rfl ⟨(hS HSd.out).1, (hS HSd.out).2.1, (hS HSd.out).2.2⟩ (fun hHeld => ?_)
        refine pure_ (i := 0) (N := some 37) (v := ?_) (a' := ?_) #[true, false, false, false, false, false, false, false, false, false, false] rfl rfl (by kernel_rfl) (fun _ _ _ h => h) (Or.inl ⟨by rfl, ?_⟩) ?_ ?_
        rotate_left
        · intro w'
          go_simp
          with_reducible rfl
        rotate_left
        · simp only [Act.put, List.setIfInBounds_toArray, List.set_cons_zero, List.set_cons_succ, i64_w, i32_w]
          rfl
        refine pure_ (i := 2) (N := some 39) (v := ?_) (a' := ?_) #[true, false, true, false, false, false, false, false, false, false, false] rfl rfl (by kernel_rfl) (fun _ _ _ h => h) (Or.inl ⟨by rfl, ?_⟩) ?_ ?_
        rotate_left
        · intro w'
          go_simp
          with_reducible rfl
        rotate_left
        · simp only [Act.put, List.setIfInBounds_toArray, List.set_cons_zero, List.set_cons_succ, i64_w, i32_w]
          rfl
        refine pure_ (i := 4) (N := some 41) (v := ?_) (a' := ?_) #[true, false, true, false, true, false, false, false, false, false, false] rfl rfl (by kernel_rfl) (fun _ _ _ h => h) (Or.inl ⟨by rfl, ?_⟩) ?_ ?_
        rotate_left
        · intro w'
          go_simp
          with_reducible rfl
        rotate_left
        · simp only [Act.put, List.setIfInBounds_toArray, List.set_cons_zero, List.set_cons_succ, i64_w, i32_w]
          rfl
        refine take_ (i := 1) (N := some 38) (v := ?_) (a' := ?_) #[true, true, true, false, true, false, false, false, false, false, false] rfl rfl (by kernel_rfl) (fun _ _ _ h => h) (Or.inl ⟨by rfl, ?_⟩) hHeld ?_ ?_
        rotate_left
        · rintro w' ⟨s0, s1, s2⟩
          go_simp
          with_reducible rfl
        rotate_left
        · simp only [Act.put, List.setIfInBounds_toArray, List.set_cons_zero, List.set_cons_succ, i64_w, i32_w]
          rfl
        refine take_ (i := 3) (N := some 40) (v := ?_) (a' := ?_) #[true, true, true, true, true, false, false, false, false, false, false] rfl rfl (by kernel_rfl) (fun _ _ _ h => h) (Or.inl ⟨by rfl, ?_⟩) hHeld ?_ ?_
        rotate_left
        · rintro w' ⟨s0, s1, s2⟩
          go_simp
          with_reducible rfl
        rotate_left
        · simp only [Act.put, List.setIfInBounds_toArray, List.set_cons_zero, List.set_cons_succ, i64_w, i32_w]
          rfl
        refine pure_ (i := 5) (N := some 42) (v := ?_) (a' := ?_) #[true, true, true, true, true, true, false, false, false, false, false] rfl rfl (by kernel_rfl) (fun _ _ _ h => h) (Or.inl ⟨by rfl, ?_⟩) ?_ ?_
        rotate_left
        · intro w'
          go_simp
          with_reducible rfl
        rotate_left
        · simp only [Act.put, List.setIfInBounds_toArray, List.set_cons_zero, List.set_cons_succ, i64_w, i32_w]
          rfl
        refine take_ (i := 6) (N := some 43) (v := ?_) (a' := ?_) #[true, true, true, true, true, true, true, false, false, false, false] rfl rfl (by kernel_rfl) (fun _ _ _ h => h) (Or.inl ⟨by rfl, ?_⟩) hHeld ?_ ?_
        rotate_left
        · rintro w' ⟨s0, s1, s2⟩
          refine (exec_loadRf (r := x) (x := .tmp 42) ?_ ?_  s2).trans ?_
          · rfl
          · rfl
          · with_reducible rfl
        rotate_left
        · simp only [Act.put, List.setIfInBounds_toArray, List.set_cons_zero, List.set_cons_succ, i64_w, i32_w]
          rfl
        refine one_ (i := 7) (N := some 44) #[true, true, true, true, true, true, true, true, false, false, false] rfl rfl (by kernel_rfl) (by decide) (fun K hK => ?_)
        refine value_ (by rfl) rfl (exec_litR (a := x.f0) (b := x.f1) (c := x.f2) rfl rfl _) ?_
        have hd : Below (World.drew w7).heap.size (World.drew w7) (World.alloc (World.drew w7) (Obj.cells #[.int .i64 x.f0, .int .i64 x.f1, .int .u32 x.f2] 56 (0, 0))) := (Below.refl _ _).alloc (Nat.le_refl _) _
        have HSe := Lib.hid (HSd.out.on hd)
        have HRe := Lib.hid (Kd.R_below HRd.out hd)
        have HAe := Lib.hid (Kd.R_below HAd.out hd)
        have HLe := Lib.hid (heap_alloc_last (World.drew w7) (Obj.cells #[.int .i64 x.f0, .int .i64 x.f1, .int .u32 x.f2] 56 (0, 0)))
        generalize (World.alloc (World.drew w7) (Obj.cells #[.int .i64 x.f0, .int .i64 x.f1, .int .u32 x.f2] 56 (0, 0))) = z7 at *
        clear hd
        refine hK.out _ _ ⟨(hS HSe.out).1, (hS HSe.out).2.1, (hS HSe.out).2.2⟩ (fun hHeld => ?_)
        clear hK K
        refine norm_ (a' := ?_) ?_ ?_
        rotate_left
        · show Act.put _ (some 44) _ = _
          simp only [Act.put, List.setIfInBounds_toArray, List.set_cons_zero, List.set_cons_succ, i64_w, i32_w]
          rfl
        refine one_ (i := 8) (N := some 45) #[true, true, true, true, true, true, true, true, true, false, false] rfl rfl (by kernel_rfl) (by decide) (fun K hK => ?_)
        refine Kd.R_append_rows_step rk (w0 := w3) w3.heap.size (by rfl) (.tmp 38) (.tmp 44) 30 56 (.agg #[.int .i64 0, .int .i64 0, .int .u32 0]) 24 (by rfl) Tryd.underlying30 infoR rfl (by decide) (by decide) (.slice ux un uc) (keepR (nm.take k) (m.refs.take k)) [x] _ _ _ (fun _ => True) (fun _ => False) (by rfl) (by rfl) HRe.out (readsR _ _ x HLe.out) (fun y cs hy => by subst hy; exact k56_mkM _ _ _ _) (fun _ h => h.elim) (fun _ _ => trivial) HSe.out.bel HSe.out.bel.size (by omega) ?_
        intro v8 w8 ho hb hg hn
        have HS8 := Lib.hid (HSe.out.grown HRe.out hg (by decide) hb)
        have HA8 := Lib.hid (row_grown HAe.out rfl HRe.out hg (by decide))
        have HR8 := Lib.hid ho
        obtain ⟨A8, m8, k8, rfl⟩ := r_sl ho
        have c9 := Err.cell_of_blk HS8.out.oo 0
        have f9 : w8.frozen? ⟨O, 0, none⟩ = false := by simp [World.frozen?, HS8.out.oo]
        clear ho hb hg hn
        refine hK.out _ _ ⟨(hS HS8.out).1, (hS HS8.out).2.1, (hS HS8.out).2.2⟩ (fun hHeld => ?_)
        clear hK K
        refine norm_ (a' := ?_) ?_ ?_
        rotate_left
        · show Act.put _ (some 45) _ = _
          simp only [Act.put, List.setIfInBounds_toArray, List.set_cons_zero, List.set_cons_succ, i64_w, i32_w]
          rfl
        refine pure_ (i := 9) (N := some 46) (v := ?_) (a' := ?_) #[true, true, true, true, true, true, true, true, true, true, false] rfl rfl (by kernel_rfl) (fun _ _ _ h => h) (Or.inl ⟨by rfl, ?_⟩) ?_ ?_
        rotate_left
        · intro w'
          go_simp
          with_reducible rfl
        rotate_left
        · simp only [Act.put, List.setIfInBounds_toArray, List.set_cons_zero, List.set_cons_succ, i64_w, i32_w]
          rfl
        refine last_ (i := 10) (N := none) #[true, true, true, true, true, true, true, true, true, true, true] rfl rfl (by kernel_rfl) (by decide) (fun K hK => ?_)
        refine skip_ (w1 := ?_) (by rfl) rfl ?_ ?_
        rotate_left
        · go_simp
          rfl
        refine hK.out _ _ ?_
        clear hK K
        refine done_ (by kernel_rfl) ?_
        have HS9 := Lib.hid (HS8.out.put HOw.out 0 (.slice A8 m8 k8) rfl)
        have HR9 := Lib.hid (row_set HS8.out HR8.out (by decide) 0 (.slice A8 m8 k8))
        have HA9 := Lib.hid (row_set HS8.out HA8.out (by decide) 0 (.slice A8 m8 k8))
        generalize (w8.setCell ⟨O, 0, none⟩ (.slice A8 m8 k8)) = w9 at *
        clear HS8 HR8 HA8 c9 f9 HLe HSe HRe HAe
        clear hHeld hS HSd HRd HAd
        go_wp2_with fail
        go_roundg k1
        case measure => exact Nat.lt_succ_self _
        case rel => exact ⟨k + 1, _, _, by simp, by omega, HS9, Lib.hid (by rw [HK2.out]; exact HR9.out), HA9, HL7⟩
end Go.Proofs.YtpijilfkmkdghaaDoor.Mni
