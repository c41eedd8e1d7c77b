/- Several texts in one: words that the proof of the law uses. -/
import Derived.Test.YtaodgnladjafoaaGreatDoorManiCV
set_option linter.unusedVariables false
set_option linter.unusedSimpArgs false
namespace Go.Proofs.YtaodgnladjafoaaGreatDoor.Mni
open Go.RowKit Go.Proofs.YtaodgnladjafoaaGreatDoorW.PrintWords Go.Proofs.YtaodgnladjafoaaGreatDoorW.PrintLast Go.Proofs.YtaodgnladjafoaaGreatDoorW.PrintMore Go.Proofs.YtaodgnladjafoaaGreatDoor.Md Go.Proofs.YtaodgnladjafoaaGreatDoor.QStoreLasts Go.Proofs.YtaodgnladjafoaaGreatDoor.CdM
open Go.Proofs.YtaodgnladjafoaaGreatDoor.Err (Laid IsErr code_nil code_c Chain at_some at_nil)
open Go.Proofs.YtaodgnladjafoaaGreatDoor.Rdr (NumTo NumAt NoNumTo RefAt On Has refA)
def Own (B : Nat) (w : World) (o : Loc) (m : Man) : Prop := Kd.F rk w (fun k => B ≤ k) o.p0 m.refs.length m.refs ∧ Kd.F (Kd.int .i64) w (fun k => B ≤ k) o.p1 m.stack.length m.stack ∧ Kd.F lk w (fun k => B ≤ k) o.p3 m.snaps.length m.snaps
theorem own_F {α : Type} {d : Kd α} {e base n c : Nat} {w : World} {A : Option Addr} {xs : List α} (hE : d.E = []) (h : d.R e w base (fun _ => True) (.slice A n c) xs) : Kd.F d w (fun k => base ≤ k) A n xs :=
  Kd.R_F (Kd.R_mono (Kd.R_tight hE h) (fun k hk => Kd.R_base h k hk.symm))
theorem Own.on {B : Nat} {w w' : World} {o : Loc} {m : Man} (h : Own B w o m) (k : Below w.heap.size w w') : Own B w' o m := ⟨Kd.F_below h.1 k, Kd.F_below h.2.1 k, Kd.F_below h.2.2 k⟩
theorem Own.at_ {B Z : Nat} {w w' : World} {o : Loc} {m : Man} (h : Own B w o m) (ha : At w o m) (k : Mod (· = Z) w w') (hZ : Z < B) : At w' o m :=
  ⟨Kd.F_now (Kd.F_step h.1 (fun i hi hlt => k.block i hlt (fun (e : i = Z) => by omega))), ha.rc, Kd.F_now (Kd.F_step h.2.1 (fun i hi hlt => k.block i hlt (fun (e : i = Z) => by omega))), ha.sc, Kd.F_now (Kd.F_step h.2.2 (fun i hi hlt => k.block i hlt (fun (e : i = Z) => by omega))), ha.nc⟩
structure Ps (w wr : World) (R Z O : Nat) (o : Loc) (m : Man) : Prop where
  mod : Mod (· = R) w wr
  oo : wr.heap[O]? = some (Obj.cells (o.a m) 43 (0, 0))
  zz : wr.heap[Z]? = some (Obj.cells #[.slice none 0 0, .slice none 0 0, .int .i64 0, .slice none 0 0] 43 (0, 0))
  r : rk.R 36 wr w.heap.size (fun _ => True) (.slice o.p0 m.refs.length o.c0) m.refs
  s : (Kd.int .i64).R 3 wr w.heap.size (fun _ => True) (.slice o.p1 m.stack.length o.c1) m.stack
  n : lk.R 40 wr w.heap.size (fun k => w.heap.size ≤ k) (.slice o.p3 m.snaps.length o.c3) m.snaps
section
variable {w wr w1 : World} {R Z O : Nat} {o : Loc} {m : Man}
theorem Ps.below (h : Ps w wr R Z O o m) (k : Below wr.heap.size wr w1) : Ps w w1 R Z O o m :=
  ⟨h.mod.on_below k (Nat.le_refl _), (k.block _ (Err.lt_of_block h.oo)).trans h.oo, (k.block _ (Err.lt_of_block h.zz)).trans h.zz, Kd.R_below h.r k, Kd.R_below h.s k, Kd.R_below h.n k⟩
theorem Ps.call (h : Ps w wr R Z O o m) (k : Mod (· = R) wr w1) (hR : R < w.heap.size) (hZ : w.heap.size ≤ Z) (hO : w.heap.size ≤ O) : Ps w w1 R Z O o m :=
  ⟨h.mod.tr k, k.blk h.oo (fun e => by omega), k.blk h.zz (fun e => by omega), row_R h.r rfl k hR, row_R h.s rfl k hR, Kd.R_step h.n (fun i hi hlt => k.block i hlt (fun (e : i = R) => by omega))⟩
theorem lk_far {v : Value} {xs : List (List Int)} {cs : Array Value} (h : lk.R 40 wr w.heap.size (fun k => w.heap.size ≤ k) v xs) (hO : wr.heap[O]? = some (Obj.cells cs 43 (0, 0))) (k : Mod (· = O) wr w1) : lk.R 40 w1 w.heap.size (fun k => w.heap.size ≤ k) v xs :=
  Kd.R_mono (Kd.R_step (Kd.R_types h hO (by decide)) (fun i hi hlt => k.block i hlt (fun (e : i = O) => hi.2 e))) (fun _ hk => hk.1)
theorem row_far {α : Type} {d : Kd α} {e base : Nat} {v : Value} {xs : List α} {cs : Array Value} (h : d.R e wr base (fun _ => True) v xs) (hE : d.E = []) (hO : wr.heap[O]? = some (Obj.cells cs 43 (0, 0))) (he : e ≠ 43) (k : Mod (· = O) wr w1) : d.R e w1 base (fun _ => True) v xs :=
  row_on hE h k (fun b hb (e2 : b = O) => by
    obtain ⟨c, hc⟩ := Kd.R_typed h b hb
    rw [e2, hO] at hc
    simp at hc
    exact he hc.2.symm)
theorem mod_o {S : Nat → Prop} (h : Mod S w wr) (k : Mod (· = O) wr w1) (hO : w.heap.size ≤ O) : Mod S w w1 := h.trans k (fun i hi (e : i = O) => by omega)
theorem mod_cell (j : Nat) (u : Value) : Mod (· = O) wr (wr.setCell ⟨O, j, none⟩ u) := (Mod.refl (· = O) wr).set ⟨O, j, none⟩ _ (.inl rfl)
theorem Ps.put0 (h : Ps w wr R Z O o m) (hO : w.heap.size ≤ O) (hZO : Z ≠ O) {p : Option Addr} {c : Nat} {l : List Rf} (hv : rk.R 36 wr w.heap.size (fun _ => True) (.slice p l.length c) l) : Ps w (wr.setCell ⟨O, 0, none⟩ (.slice p l.length c)) R Z O { o with p0 := p, c0 := c } { m with refs := l } := by
  have k := mod_cell (wr := wr) (O := O) 0 (.slice p l.length c)
  exact ⟨mod_o h.mod k hO, by simpa [Loc.a] using blk_set h.oo 0 (.slice p l.length c), k.blk h.zz hZO, row_far hv rfl h.oo (by decide) k, row_far h.s rfl h.oo (by decide) k, lk_far h.n h.oo k⟩
theorem Ps.put1 (h : Ps w wr R Z O o m) (hO : w.heap.size ≤ O) (hZO : Z ≠ O) {p : Option Addr} {c : Nat} {l : List Int} (hv : (Kd.int .i64).R 3 wr w.heap.size (fun _ => True) (.slice p l.length c) l) : Ps w (wr.setCell ⟨O, 1, none⟩ (.slice p l.length c)) R Z O { o with p1 := p, c1 := c } { m with stack := l } := by
  have k := mod_cell (wr := wr) (O := O) 1 (.slice p l.length c)
  exact ⟨mod_o h.mod k hO, by simpa [Loc.a] using blk_set h.oo 1 (.slice p l.length c), k.blk h.zz hZO, row_far h.r rfl h.oo (by decide) k, row_far hv rfl h.oo (by decide) k, lk_far h.n h.oo k⟩
theorem Ps.put2 (h : Ps w wr R Z O o m) (hO : w.heap.size ≤ O) (hZO : Z ≠ O) (x : Int) : Ps w (wr.setCell ⟨O, 2, none⟩ (.int .i64 x)) R Z O o { m with upper := x } := by
  have k := mod_cell (wr := wr) (O := O) 2 (.int .i64 x)
  exact ⟨mod_o h.mod k hO, by simpa [Loc.a] using blk_set h.oo 2 (.int .i64 x), k.blk h.zz hZO, row_far h.r rfl h.oo (by decide) k, row_far h.s rfl h.oo (by decide) k, lk_far h.n h.oo k⟩
theorem Ps.put3 (h : Ps w wr R Z O o m) (hO : w.heap.size ≤ O) (hZO : Z ≠ O) {p : Option Addr} {c n : Nat} {l : List (List Int)} (hg : wr.grownBy w1 (Value.slice o.p3 m.snaps.length o.c3).ownBlock) (hb : Below w.heap.size wr w1) (hv : lk.R 40 w1 w.heap.size (fun k => w.heap.size ≤ k) (.slice p n c) l) : Ps w (w1.setCell ⟨O, 3, none⟩ (.slice p n c)) R Z O { o with p3 := p, c3 := c } { m with snaps := l } := by
  have hty : ∀ {b : Nat} {cs : Array Value} {t : TypeId}, wr.heap[b]? = some (Obj.cells cs t (0, 0)) → t ≠ 40 → w1.heap[b]? = some (Obj.cells cs t (0, 0)) := fun {b cs t} hb2 ht => by
    refine (hg.block b (Err.lt_of_block hb2) (fun e => ?_)).trans hb2
    obtain ⟨cells, hc⟩ := Kd.R_typed h.n b e.symm
    rw [hb2] at hc
    simp at hc
    exact ht hc.2
  have hn : n = l.length := (Kd.R_reads' hv).1
  subst hn
  have ho1 := hty h.oo (by decide)
  have k := mod_cell (wr := w1) (O := O) 3 (.slice p l.length c)
  have hT : lk.R 40 wr w.heap.size (fun _ => True) (.slice o.p3 m.snaps.length o.c3) m.snaps := Kd.R_mono h.n (fun _ _ => trivial)
  exact ⟨mod_o (mod_b h.mod hb (Nat.le_refl _)) k hO, by simpa [Loc.a] using blk_set ho1 3 (.slice p l.length c), k.blk (hty h.zz (by decide)) hZO, row_far (row_grown h.r rfl hT hg (by decide)) rfl ho1 (by decide) k, row_far (row_grown h.s rfl hT hg (by decide)) rfl ho1 (by decide) k, lk_far hv ho1 k⟩
theorem Ps.fin (h : Ps w wr R Z O o m) (hZ : w.heap.size ≤ Z) (cs : Array Value) : (At (wr.setRow Z cs) o m ∧ Own w.heap.size (wr.setRow Z cs) o m) ∧ Mod (· = R) w (wr.setRow Z cs) := by
  have k := mod_row wr Z cs
  have r0 := row_far h.r rfl h.zz (by decide) k
  have r1 := row_far h.s rfl h.zz (by decide) k
  have r3 := lk_far h.n h.zz k
  have g0 := Kd.R_reads' r0
  have g1 := Kd.R_reads' r1
  have g3 := Kd.R_reads' r3
  exact ⟨⟨⟨g0.2.2, g0.2.1, g1.2.2, g1.2.1, g3.2.2, g3.2.1⟩, own_F rfl r0, own_F rfl r1, Kd.R_F r3⟩, mod_o h.mod k hZ⟩
end
theorem parts_results (tmps : Array Value) (W : World) (b : Nat) (cs : Array Value) (e : Value) (hs : cs.size = 4) (h4 : tmps.getD 2 undef = .pointer (some ⟨b, 0, none⟩)) (h5 : tmps.getD 3 undef = e) (h : W.heap[b]? = some (Obj.cells cs 43 (0, 0))) : (results Tryz.f73 tmps).run Tryz.prog W = .ok (.tuple #[.agg cs, e]) W := by
  have hl : (loadVar 43 ⟨b, 0, none⟩).run Tryz.prog W = .ok (.agg cs) W := run_loadVar_row W b 43 43 cs (0, 0) _ h Tryz.underlying43 rfl (by rw [sizeM, hs])
  have h4' : tmps[2]?.getD undef = .pointer (some ⟨b, 0, none⟩) := by simpa using h4
  have h5' : tmps[3]?.getD undef = e := by simpa using h5
  simp [results, Tryz.results73, asAddr, h4', h5', hl]
section
variable {ops : Array Oper} {rest : List Oper} {o : Oper} {a : Go.Act} {w : World} {Q : Exit → Go.Act → World → Prop}
theorem wl_litL (A : Option Addr) (n c : Nat) (hgd : o.guard = none) (x : Operand) (ho : o.op = .buildSlice 41 1 #[(0, x)]) (hx : a.eval x = .slice A n c) (h : wpList Tryz.prog ops Q rest (a.put o.dst (.slice (some ⟨w.heap.size, 0, none⟩) 1 1)) (w.alloc (.cells #[.slice A n c] 40 (0, 0)))) : wpList Tryz.prog ops Q (o :: rest) a w :=
  Kd.event_run hgd (exec_litL ho hx w) h
end
theorem isErr_o {w w1 : World} {O : Nat} {cs : Array Value} {v : Value} {n : Int} (h : IsErr w v n) (hO : w.heap[O]? = some (Obj.cells cs 43 (0, 0))) (k : Mod (· = O) w w1) : IsErr w1 v n :=
  Rdr.isErr_mod h k (fun b cs2 hb (e : b = O) => by rw [e, hO] at hb; simp at hb)
theorem grown_blk {α : Type} {d : Kd α} {e base b : Nat} {ok : Nat → Prop} {w w1 : World} {v : Value} {xs : List α} {cs : Array Value} {t : TypeId} (hb : w.heap[b]? = some (Obj.cells cs t (0, 0))) (hv : d.R e w base ok v xs) (hg : w.grownBy w1 v.ownBlock) (ht : t ≠ e) : w1.heap[b]? = some (Obj.cells cs t (0, 0)) := by
  refine (hg.block b (Err.lt_of_block hb) (fun e2 => ?_)).trans hb
  obtain ⟨cells, hc⟩ := Kd.R_typed hv b e2.symm
  rw [hb] at hc
  simp at hc
  exact ht hc.2
theorem grown_cell {α : Type} {d : Kd α} {e base b : Nat} {ok : Nat → Prop} {w w1 : World} {v : Value} {xs : List α} {cs : Array Value} {t : TypeId} (hb : w.heap[b]? = some (Obj.cells cs t (0, 0))) (hv : d.R e w base ok v xs) (hg : w.grownBy w1 v.ownBlock) (ht : t ≠ e) (j : Nat) : w1.cell? ⟨b, j, none⟩ = cs[j]? := Err.cell_of_blk (grown_blk hb hv hg ht) j
theorem grown_fz {α : Type} {d : Kd α} {e base b : Nat} {ok : Nat → Prop} {w w1 : World} {v : Value} {xs : List α} {cs : Array Value} {t : TypeId} (hb : w.heap[b]? = some (Obj.cells cs t (0, 0))) (hv : d.R e w base ok v xs) (hg : w.grownBy w1 v.ownBlock) (ht : t ≠ e) (j : Nat) : w1.frozen? ⟨b, j, none⟩ = false := by
  simp [World.frozen?, grown_blk hb hv hg ht]
theorem isErr_g {α : Type} {d : Kd α} {e base : Nat} {ok : Nat → Prop} {w w1 : World} {v u : Value} {n : Int} {xs : List α} (h : IsErr w u n) (hv : d.R e w base ok v xs) (hg : w.grownBy w1 v.ownBlock) (he : 113 ≠ e) (hm : Mod (fun k => v.ownBlock = some k) w w1) : IsErr w1 u n :=
  Rdr.isErr_mod h hm (fun b cs hb hk => by
    obtain ⟨c, hc⟩ := Kd.R_typed hv b hk
    rw [hb] at hc
    simp at hc
    exact he hc.2)
set_option maxHeartbeats 8000000 in
set_option maxRecDepth 100000 in
theorem parts_c (R : Nat) (s : ByteArray) (p : Nat) (w : World) (h : Hid (Has w R s p)) (hs : s.size ≤ 4611686018427387904) :
    Calls Tryz.prog 73 #[.pointer (some ⟨R, 0, none⟩)] w fun ev w' => Mod (· = R) w w' ∧ ((∃ m q o', partsP s p = some (m, q) ∧ ev = .returned (.tuple #[.agg (Loc.a o' m), .nilIface]) ∧ (At w' o' m ∧ Own w.heap.size w' o' m) ∧ Has w' R s q) ∨ (partsP s p = none ∧ ∃ o' m' T x, ev = .returned (.tuple #[.agg (Loc.a o' m'), .iface T x]) ∧ IsErr w' (.iface T x) 13)) := by
  have hRl : R < w.heap.size := Err.lt_of_block h.out
  obtain ⟨U, hU⟩ : ∃ U, partsP s p = U := ⟨_, rfl⟩
  have HU := Lib.hid hU
  rw [hU]
  clear hU
  go_enter Tryz.func73, Tryz.ntmps73
  go_upto_region 1 with (first | (refine wl_allocM rfl rfl ?_))
  have hb1 : Below w.heap.size w (w.alloc (Obj.cells #[.slice none 0 0, .slice none 0 0, .int .i64 0, .slice none 0 0] 43 (0, 0))) := (Below.refl _ _).alloc (Nat.le_refl _) _
  have hZ1 := heap_alloc_last w (Obj.cells #[.slice none 0 0, .slice none 0 0, .int .i64 0, .slice none 0 0] 43 (0, 0))
  obtain ⟨Z, hZ⟩ : ∃ Z, w.heap.size = Z := ⟨_, rfl⟩
  have hZw : w.heap.size ≤ Z := Nat.le_of_eq hZ
  have HZw := Lib.hid hZw
  rw [hZ] at hZ1
  simp only [hZ]
  generalize (w.alloc (Obj.cells #[.slice none 0 0, .slice none 0 0, .int .i64 0, .slice none 0 0] 43 (0, 0))) = w1 at *
  clear hZ hZw
  go_upto_region 2 with (first | (refine wl_allocM rfl rfl ?_))
  have hb2 : Below w1.heap.size w1 (w1.alloc (Obj.cells #[.slice none 0 0, .slice none 0 0, .int .i64 0, .slice none 0 0] 43 (0, 0))) := (Below.refl _ _).alloc (Nat.le_refl _) _
  have hO2 := heap_alloc_last w1 (Obj.cells #[.slice none 0 0, .slice none 0 0, .int .i64 0, .slice none 0 0] 43 (0, 0))
  have hZ2 := (hb2.block _ (Err.lt_of_block hZ1)).trans hZ1
  have hZlt := Err.lt_of_block hZ1
  have hw1 := hb1.size
  have hB2 := hb1.trans (hb2.mono hb1.size)
  have HH2 := Lib.hid (has_b h.out hB2 hRl)
  obtain ⟨O, hO⟩ : ∃ O, w1.heap.size = O := ⟨_, rfl⟩
  rw [hO] at hO2 hZlt hw1
  simp only [hO]
  have hZO : Z ≠ O := by omega
  have hOw : w.heap.size ≤ O := hw1
  have hZw := HZw.out
  have HP2 := Lib.hid (show Ps w (w1.alloc (Obj.cells #[.slice none 0 0, .slice none 0 0, .int .i64 0, .slice none 0 0] 43 (0, 0))) R Z O ⟨none, 0, none, 0, none, 0⟩ ⟨[], [], 0, []⟩ from
    ⟨Mod.of_below hB2 (Nat.le_refl _), hO2, hZ2, Kd.R_nil _ _ _ _ _, Kd.R_nil _ _ _ _ _, Kd.R_nil _ _ _ _ _⟩)
  generalize (w1.alloc (Obj.cells #[.slice none 0 0, .slice none 0 0, .int .i64 0, .slice none 0 0] 43 (0, 0))) = w2 at *
  clear hb1 hb2 hO2 hZ1 hZ2 hB2 hO hw1 hZlt h
  go_wp2_with fail
  refine (refs_c R s p w2 HH2 hs).mono ?_
  rintro e w3 ⟨hm, ⟨l0, q0, v0, hp, rfl, hv, hh⟩ | ⟨hp, ⟨T, x, rfl, hi⟩, q0, hh⟩⟩
  · have HP3 := Lib.hid (HP2.out.call hm hRl hZw hOw)
    have HH3 := Lib.hid hh
    have hv' := Kd.R_lower hv HP2.out.mod.size
    obtain ⟨ax, an, ac, rfl⟩ := r_sl hv'
    have han : an = l0.length := (Kd.R_reads' hv').1
    subst han
    have HU3 := Lib.hid (show ((listP s q0).bind fun b => (numP s b.2 64).bind fun c => (numP s c.2 16).bind fun d => (snapsIt s d.1 d.2).bind fun f => some ((⟨l0, b.1, (c.1 : Int) - 1, f.1⟩ : Man), f.2)) = U by
      rw [← HU.out]; unfold partsP; rw [hp, Option.bind_some])
    have c9 := (box_cells (Lib.hid HP3.out.oo)).1
    have f9 : w3.frozen? ⟨O, 0, none⟩ = false := by simp [World.frozen?, HP3.out.oo]
    have HP4 := Lib.hid (HP3.out.put0 hOw hZO hv')
    have HH4 := Lib.hid (HH3.out.mod (mod_cell (wr := w3) (O := O) 0 (.slice ax l0.length ac)) (fun (e : R = O) => by omega))
    clear hm hh hp hv hv' HU HP2 HH2 HP3 HH3
    go_upto_region 4 with fail
    generalize (w3.setCell ⟨O, 0, none⟩ (.slice ax l0.length ac)) = w4 at *
    clear c9 f9
    go_wp2_with fail
    refine (list_c R s q0 w4 HH4 hs).mono ?_
    rintro e w5 ⟨hm, ⟨l1, q1, v1, hp, rfl, hv, hh⟩ | ⟨hp, ⟨T, x, rfl, hi⟩, q1, hh⟩⟩
    · have HP5 := Lib.hid (HP4.out.call hm hRl hZw hOw)
      have HH5 := Lib.hid hh
      have hv' := Kd.R_lower hv HP4.out.mod.size
      obtain ⟨bx, bn, bc, rfl⟩ := r_sl hv'
      have hbn : bn = l1.length := (Kd.R_reads' hv').1
      subst hbn
      have HU5 := Lib.hid (show ((numP s q1 64).bind fun c => (numP s c.2 16).bind fun d => (snapsIt s d.1 d.2).bind fun f => some ((⟨l0, l1, (c.1 : Int) - 1, f.1⟩ : Man), f.2)) = U by
        rw [← HU3.out, hp, Option.bind_some])
      have c9 := (box_cells (Lib.hid HP5.out.oo)).2.1
      have f9 : w5.frozen? ⟨O, 1, none⟩ = false := by simp [World.frozen?, HP5.out.oo]
      have HP6 := Lib.hid (HP5.out.put1 hOw hZO hv')
      have HH6 := Lib.hid (HH5.out.mod (mod_cell (wr := w5) (O := O) 1 (.slice bx l1.length bc)) (fun (e : R = O) => by omega))
      clear hm hh hp hv hv' HU3 HP4 HH4 HP5 HH5
      go_upto_region 7 with fail
      generalize (w5.setCell ⟨O, 1, none⟩ (.slice bx l1.length bc)) = w6 at *
      clear c9 f9
      go_wp2_with fail
      refine (Rdr.num_any R s q1 64 w6 HH6 hs).mono ?_
      rintro e w7 ⟨n2, e2, q2, rfl, ha, hm, hh⟩
      have HP7 := Lib.hid (HP6.out.call hm hRl hZw hOw)
      have HH7 := Lib.hid hh
      rcases numAt_P ha with ⟨up, hn, rfl, rfl, hup⟩ | ⟨hn, rfl, T, x, rfl, hi⟩
      · have q8 : IntKind.i64.wrap ((up : Int) - 1) = (up : Int) - 1 := IntWalk.i64_in _ (by omega)
        have HU7 := Lib.hid (show ((numP s q2 16).bind fun d => (snapsIt s d.1 d.2).bind fun f => some ((⟨l0, l1, (up : Int) - 1, f.1⟩ : Man), f.2)) = U by
          rw [← HU5.out, hn, Option.bind_some])
        have c9 := (box_cells (Lib.hid HP7.out.oo)).2.2.1
        have f9 : w7.frozen? ⟨O, 2, none⟩ = false := by simp [World.frozen?, HP7.out.oo]
        have HP8 := Lib.hid (HP7.out.put2 hOw hZO ((up : Int) - 1))
        have HH8 := Lib.hid (HH7.out.mod (mod_cell (wr := w7) (O := O) 2 (.int .i64 ((up : Int) - 1))) (fun (e : R = O) => by omega))
        clear hm hh hn ha HU5 HP6 HH6 HP7 HH7
        go_upto_region 13 with fail
        generalize (w7.setCell ⟨O, 2, none⟩ (.int .i64 ((up : Int) - 1))) = w8 at *
        clear c9 f9
        go_wp2_with fail
        refine (Rdr.num_any R s q2 16 w8 HH8 hs).mono ?_
        rintro e w9 ⟨n3, e3, q3, rfl, ha, hm, hh⟩
        have HP9 := Lib.hid (HP8.out.call hm hRl hZw hOw)
        obtain ⟨n, rfl, hn16, hpre⟩ : ∃ n : Nat, n3 = (n : Int) ∧ n ≤ 16 ∧ ((e3 = .nilIface ∧ ((snapsIt s n q3).bind fun f => some ((⟨l0, l1, (up : Int) - 1, [] ++ f.1⟩ : Man), f.2)) = U) ∨ (U = none ∧ ∃ T x, e3 = .iface T x ∧ IsErr w9 (.iface T x) 13)) := by
          rcases numAt_P ha with ⟨y, hn, rfl, rfl, hy⟩ | ⟨hn, rfl, T, x, rfl, hi⟩
          · exact ⟨y, rfl, by omega, .inl ⟨rfl, by rw [← HU7.out, hn, Option.bind_some]; rfl⟩⟩
          · exact ⟨0, rfl, by omega, .inr ⟨by rw [← HU7.out, hn]; rfl, T, x, rfl, hi⟩⟩
        have HH9 := Lib.hid hh
        have HPre := Lib.hid hpre
        clear ha hm hh hpre HU7 HP8 HH8
        go_wp2_with fail
        go_loopg [5, 8] n (fun kq v5 v8 wr => ∃ (i : Nat) (acc : List (List Int)) (o : Loc), v8 = .int .i64 (i : Int) ∧ Hid (Ps w wr R Z O o ⟨l0, l1, (up : Int) - 1, acc⟩) ∧ ((∃ q, v5 = .nilIface ∧ kq + i = n ∧ Hid (acc.length = i) ∧ Hid (Has wr R s q) ∧ Hid (((snapsIt s kq q).bind fun f => some ((⟨l0, l1, (up : Int) - 1, acc ++ f.1⟩ : Man), f.2)) = U)) ∨ (Hid (U = none) ∧ ∃ T x, v5 = .iface T x ∧ Hid (IsErr wr (.iface T x) 13))))
        case atStart =>
          refine ⟨0, [], _, rfl, HP9, ?_⟩
          rcases HPre.out with ⟨rfl, hu⟩ | ⟨hu, T, x, rfl, hi⟩
          · exact .inl ⟨q3, rfl, rfl, Lib.hid rfl, HH9, Lib.hid hu⟩
          · exact .inr ⟨Lib.hid hu, T, x, rfl, Lib.hid hi⟩
        case round =>
          clear HP9 HH9 HPre
          obtain ⟨i, acc, o, rfl, HP, hst⟩ := hrel
          generalize wr = w10 at *
          rcases hst with ⟨q, rfl, hk, hacc, HH, HUi⟩ | ⟨HUn, T, x, rfl, HE⟩
          · cases gk with
            | zero =>
              have c1 : decide ((i : Int) < (n : Int)) = false := decide_eq_false (by omega)
              have c1b : decide (i < n) = false := decide_eq_false (by omega)
              have HU3 := Lib.hid (show some ((⟨l0, l1, (up : Int) - 1, acc⟩ : Man), q) = U by rw [← HUi.out]; show _ = some ((⟨l0, l1, (up : Int) - 1, acc ++ []⟩ : Man), q); rw [List.append_nil])
              clear HUi hk
              go_wp2_with (first
                | (refine wl_loadM O o ⟨l0, l1, (up : Int) - 1, acc⟩ HP.out.oo rfl _ rfl rfl ?_)
                | (refine wl_storeM Z #[.slice none 0 0, .slice none 0 0, .int .i64 0, .slice none 0 0] rfl o ⟨l0, l1, (up : Int) - 1, acc⟩ HP.out.zz rfl _ _ rfl rfl rfl ?_))
              (try simp only [Exit.inBlock, Exit.then])
              refine bodyPost_ret (v := .tuple #[.agg (Loc.a o ⟨l0, l1, (up : Int) - 1, acc⟩), .nilIface]) ?_ rfl ?_
              · exact parts_results _ _ Z _ .nilIface rfl rfl rfl (setRow_heap _ Z _ _ _ _ HP.out.zz)
              obtain ⟨hat, hmd⟩ := HP.out.fin hZw (Loc.a o ⟨l0, l1, (up : Int) - 1, acc⟩)
              exact ⟨hmd, .inl ⟨_, q, o, HU3.out.symm, rfl, hat, HH.out.mod (mod_row _ Z _) (fun (e : R = Z) => by omega)⟩⟩
            | succ k1 =>
              have hin : i < n := by omega
              have hac16 : acc.length ≤ 16 := by rw [hacc.out]; omega
              have c1 : decide ((i : Int) < (n : Int)) = true := decide_eq_true (by omega)
              have c1b : decide (i < n) = true := decide_eq_true hin
              have q5 : IntKind.i64.wrap ((i : Int) + 1) = (i : Int) + 1 := IntWalk.i64_in _ (by omega)
              go_wp2_with fail
              refine (list_c R s q w10 HH hs).mono ?_
              rintro e w11 ⟨hm, ⟨l2, q1, v1, hp, rfl, hv, hh⟩ | ⟨hp, ⟨T, x, rfl, hi⟩, q1, hh⟩⟩
              · have HP11 := Lib.hid (HP.out.call hm hRl hZw hOw)
                have hv' := Kd.R_lower hv HP.out.mod.size
                obtain ⟨bx, bn, bc, rfl⟩ := r_sl hv'
                have HV11 := Lib.hid hv'
                have HH11 := Lib.hid hh
                have HU11 := Lib.hid (show ((snapsIt s k1 q1).bind fun f => some ((⟨l0, l1, (up : Int) - 1, (acc ++ [l2]) ++ f.1⟩ : Man), f.2)) = U by
                  rw [← HUi.out]
                  show _ = ((listP s q).bind fun a => (snapsIt s k1 a.2).bind fun b => some (a.1 :: b.1, b.2)).bind fun f => some ((⟨l0, l1, (up : Int) - 1, acc ++ f.1⟩ : Man), f.2)
                  rw [hp, Option.bind_some]
                  cases snapsIt s k1 q1 with
                  | none => rfl
                  | some b => show some ((⟨l0, l1, (up : Int) - 1, (acc ++ [l2]) ++ b.1⟩ : Man), b.2) = some ((⟨l0, l1, (up : Int) - 1, acc ++ (l2 :: b.1)⟩ : Man), b.2); rw [List.append_assoc]; rfl)
                clear hm hh hp hv hv' HP HH HUi
                have c3 : w11.cell? ⟨O, 3, none⟩ = some (.slice o.p3 acc.length o.c3) := (box_cells (Lib.hid HP11.out.oo)).2.2.2
                have hb5 : Below w11.heap.size w11 (w11.alloc (.cells #[.slice bx bn bc] 40 (0, 0))) := (Below.refl _ _).alloc (Nat.le_refl _) _
                have HL5 := Lib.hid (heap_alloc_last w11 (.cells #[.slice bx bn bc] 40 (0, 0)))
                have HP5 := Lib.hid (HP11.out.below hb5)
                have HV5 := Lib.hid (Kd.R_below HV11.out hb5)
                have HH5 := Lib.hid (has_b HH11.out hb5 (Err.lt_of_block HH11.out))
                clear HH11
                have hM : lk.M (w11.alloc (.cells #[.slice bx bn bc] 40 (0, 0))) w.heap.size (fun k => w.heap.size ≤ k ∧ some k ≠ (Value.slice o.p3 acc.length o.c3).ownBlock) l2 [.slice bx bn bc] := ⟨_, rfl, Kd.R_mono (Kd.R_tight rfl HV5.out) (fun k hk => ⟨Kd.R_base HV5.out k hk.symm, fun e2 => own_apart HV5.out (Kd.R_mono HP5.out.n (fun _ _ => trivial)) (by decide) k hk.symm e2.symm⟩)⟩
                have hsz5 : w.heap.size ≤ (w11.alloc (.cells #[.slice bx bn bc] 40 (0, 0))).heap.size := HP5.out.mod.size
                have HM := Lib.hid hM
                clear hb5 HP11 HV11 hM
                go_wp2_with (first
                  | (refine wl_litL bx bn bc rfl _ rfl rfl ?_)
                  | (at_builtin
                     refine Kd.R_append_rows lk (w0 := w11.alloc (.cells #[.slice bx bn bc] 40 (0, 0))) w.heap.size rfl (.tmp 62) (.tmp 64) 41 40 (.slice none 0 0) 24 rfl Tryz.underlying41 infoV rfl (by decide) (by decide) (.slice o.p3 acc.length o.c3) acc [l2] _ _ _ (fun k => w.heap.size ≤ k) (fun k => w.heap.size ≤ k ∧ some k ≠ (Value.slice o.p3 acc.length o.c3).ownBlock) rfl rfl HP5.out.n (readsL _ _ _ _ (lk.M (w11.alloc (.cells #[.slice bx bn bc] 40 (0, 0))) w.heap.size (fun k => w.heap.size ≤ k ∧ some k ≠ (Value.slice o.p3 acc.length o.c3).ownBlock)) HL5.out HM.out) (fun _ _ h => h) (fun _ h => h) (fun k hk => Nat.le_trans hsz5 hk) (Below.refl _ _) hsz5 (by omega) ?_
                     intro v8 w8 ho hb hg hn
                     obtain ⟨A8, m8, k8, rfl⟩ := r_sl ho
                     have HP8 := Lib.hid (HP5.out.put3 hOw hZO hg hb ho)
                     have c8 : w8.cell? ⟨O, 3, none⟩ = some (.slice o.p3 acc.length o.c3) := grown_cell HP5.out.oo HP5.out.n hg (by decide) 3
                     have f8 := grown_fz HP5.out.oo HP5.out.n hg (by decide) 3
                     have HH8 := Lib.hid ((has_b HH5.out hb hRl).mod (mod_cell (wr := w8) (O := O) 3 (.slice A8 m8 k8)) (fun (e : R = O) => by omega))
                     clear ho hb hg hn))
                generalize (w8.setCell ⟨O, 3, none⟩ (.slice A8 m8 k8)) = w12 at *
                go_roundg k1
                case measure => exact Nat.lt_succ_self _
                case rel => exact ⟨i + 1, acc ++ [l2], _, by simp, HP8, .inl ⟨q1, rfl, by omega, Lib.hid (by rw [List.length_append, hacc.out]; rfl), HH8, HU11⟩⟩
              · have HUn := Lib.hid (show U = none by
                  rw [← HUi.out]
                  show ((listP s q).bind fun a => (snapsIt s k1 a.2).bind fun b => some (a.1 :: b.1, b.2)).bind (fun f => some ((⟨l0, l1, (up : Int) - 1, acc ++ f.1⟩ : Man), f.2)) = none
                  rw [hp]; rfl)
                have HP11 := Lib.hid (HP.out.call hm hRl hZw hOw)
                have HV11 := Lib.hid (show (Kd.int .i64).R 3 w11 w.heap.size (fun _ => True) (.slice none 0 0) [] from Kd.R_nil _ _ _ _ _)
                have HE11 := Lib.hid hi
                clear hm hh hp hi HP HH HUi
                have c3 : w11.cell? ⟨O, 3, none⟩ = some (.slice o.p3 acc.length o.c3) := (box_cells (Lib.hid HP11.out.oo)).2.2.2
                have hb5 : Below w11.heap.size w11 (w11.alloc (.cells #[.slice none 0 0] 40 (0, 0))) := (Below.refl _ _).alloc (Nat.le_refl _) _
                have HL5 := Lib.hid (heap_alloc_last w11 (.cells #[.slice none 0 0] 40 (0, 0)))
                have HP5 := Lib.hid (HP11.out.below hb5)
                have HV5 := Lib.hid (Kd.R_below HV11.out hb5)
                have HE5 := Lib.hid (HE11.out.on hb5)
                clear HE11
                have hM : lk.M (w11.alloc (.cells #[.slice none 0 0] 40 (0, 0))) w.heap.size (fun k => w.heap.size ≤ k ∧ some k ≠ (Value.slice o.p3 acc.length o.c3).ownBlock) [] [.slice none 0 0] := ⟨_, rfl, Kd.R_mono (Kd.R_tight rfl HV5.out) (fun k hk => ⟨Kd.R_base HV5.out k hk.symm, fun e2 => own_apart HV5.out (Kd.R_mono HP5.out.n (fun _ _ => trivial)) (by decide) k hk.symm e2.symm⟩)⟩
                have hsz5 : w.heap.size ≤ (w11.alloc (.cells #[.slice none 0 0] 40 (0, 0))).heap.size := HP5.out.mod.size
                have HM := Lib.hid hM
                clear hb5 HP11 HV11 hM
                go_wp2_with (first
                  | (refine wl_litL none 0 0 rfl _ rfl rfl ?_)
                  | (at_builtin
                     refine Kd.R_append_rows lk (w0 := w11.alloc (.cells #[.slice none 0 0] 40 (0, 0))) w.heap.size rfl (.tmp 62) (.tmp 64) 41 40 (.slice none 0 0) 24 rfl Tryz.underlying41 infoV rfl (by decide) (by decide) (.slice o.p3 acc.length o.c3) acc [[]] _ _ _ (fun k => w.heap.size ≤ k) (fun k => w.heap.size ≤ k ∧ some k ≠ (Value.slice o.p3 acc.length o.c3).ownBlock) rfl rfl HP5.out.n (readsL _ _ _ _ (lk.M (w11.alloc (.cells #[.slice none 0 0] 40 (0, 0))) w.heap.size (fun k => w.heap.size ≤ k ∧ some k ≠ (Value.slice o.p3 acc.length o.c3).ownBlock)) HL5.out HM.out) (fun _ _ h => h) (fun _ h => h) (fun k hk => Nat.le_trans hsz5 hk) (Below.refl _ _) hsz5 (by omega) ?_
                     intro v8 w8 ho hb hg hn
                     obtain ⟨A8, m8, k8, rfl⟩ := r_sl ho
                     have HP8 := Lib.hid (HP5.out.put3 hOw hZO hg hb ho)
                     have c8 : w8.cell? ⟨O, 3, none⟩ = some (.slice o.p3 acc.length o.c3) := grown_cell HP5.out.oo HP5.out.n hg (by decide) 3
                     have f8 := grown_fz HP5.out.oo HP5.out.n hg (by decide) 3
                     have HP8o := grown_blk HP5.out.oo HP5.out.n hg (by decide)
                     have HE8 := Lib.hid (isErr_o (isErr_g HE5.out HP5.out.n hg (by decide) ⟨hb.os, hb.tape, hb.output, hb.size, fun k hk hn2 => hg.block k hk (fun e => hn2 e.symm)⟩) HP8o (mod_cell (wr := w8) (O := O) 3 (.slice A8 m8 k8)))
                     clear ho hb hg hn))
                generalize (w8.setCell ⟨O, 3, none⟩ (.slice A8 m8 k8)) = w12 at *
                go_roundg k1
                case measure => exact Nat.lt_succ_self _
                case rel => exact ⟨i + 1, acc ++ [[]], _, by simp, HP8, .inr ⟨HUn, T, x, rfl, HE8⟩⟩
          · by_cases hin : i < n
            · have c1 : decide ((i : Int) < (n : Int)) = true := decide_eq_true (by omega)
              have c1b : decide (i < n) = true := decide_eq_true hin
              clear hin
              go_wp2_with (first
                | (refine wl_loadM O o ⟨l0, l1, (up : Int) - 1, acc⟩ HP.out.oo rfl _ rfl rfl ?_)
                | (refine wl_storeM Z #[.slice none 0 0, .slice none 0 0, .int .i64 0, .slice none 0 0] rfl o ⟨l0, l1, (up : Int) - 1, acc⟩ HP.out.zz rfl _ _ rfl rfl rfl ?_))
              (try simp only [Exit.inBlock, Exit.then])
              refine bodyPost_ret (v := .tuple #[.agg (Loc.a o ⟨l0, l1, (up : Int) - 1, acc⟩), (.iface T x)]) ?_ rfl ?_
              · exact parts_results _ _ Z _ (.iface T x) rfl rfl rfl (setRow_heap _ Z _ _ _ _ HP.out.zz)
              obtain ⟨hat, hmd⟩ := HP.out.fin hZw (Loc.a o ⟨l0, l1, (up : Int) - 1, acc⟩)
              exact ⟨hmd, .inr ⟨HUn.out, o, ⟨l0, l1, (up : Int) - 1, acc⟩, T, x, rfl, isErr_o HE.out HP.out.zz (mod_row _ Z _)⟩⟩
            · have c1 : decide ((i : Int) < (n : Int)) = false := decide_eq_false (by omega)
              have c1b : decide (i < n) = false := decide_eq_false hin
              clear hin
              go_wp2_with (first
                | (refine wl_loadM O o ⟨l0, l1, (up : Int) - 1, acc⟩ HP.out.oo rfl _ rfl rfl ?_)
                | (refine wl_storeM Z #[.slice none 0 0, .slice none 0 0, .int .i64 0, .slice none 0 0] rfl o ⟨l0, l1, (up : Int) - 1, acc⟩ HP.out.zz rfl _ _ rfl rfl rfl ?_))
              (try simp only [Exit.inBlock, Exit.then])
              refine bodyPost_ret (v := .tuple #[.agg (Loc.a o ⟨l0, l1, (up : Int) - 1, acc⟩), (.iface T x)]) ?_ rfl ?_
              · exact parts_results _ _ Z _ (.iface T x) rfl rfl rfl (setRow_heap _ Z _ _ _ _ HP.out.zz)
              obtain ⟨hat, hmd⟩ := HP.out.fin hZw (Loc.a o ⟨l0, l1, (up : Int) - 1, acc⟩)
              exact ⟨hmd, .inr ⟨HUn.out, o, ⟨l0, l1, (up : Int) - 1, acc⟩, T, x, rfl, isErr_o HE.out HP.out.zz (mod_row _ Z _)⟩⟩
      · have HUn := Lib.hid (show U = none by rw [← HU5.out, hn]; rfl)
        have HE := Lib.hid hi
        clear hm hh hn ha hi HU5 HP6 HH6 HH7
        go_wp2_with (first
          | (refine wl_loadM O ⟨ax, ac, bx, bc, none, 0⟩ ⟨l0, l1, 0, []⟩ HP7.out.oo rfl _ rfl rfl ?_)
          | (refine wl_storeM Z #[.slice none 0 0, .slice none 0 0, .int .i64 0, .slice none 0 0] rfl ⟨ax, ac, bx, bc, none, 0⟩ ⟨l0, l1, 0, []⟩ HP7.out.zz rfl _ _ rfl rfl rfl ?_))
        (try simp only [Exit.inBlock, Exit.then])
        refine bodyPost_ret (v := .tuple #[.agg (Loc.a ⟨ax, ac, bx, bc, none, 0⟩ ⟨l0, l1, 0, []⟩), (.iface T x)]) ?_ rfl ?_
        · exact parts_results _ _ Z _ (.iface T x) rfl rfl rfl (setRow_heap _ Z _ _ _ _ HP7.out.zz)
        obtain ⟨hat, hmd⟩ := HP7.out.fin hZw (Loc.a ⟨ax, ac, bx, bc, none, 0⟩ ⟨l0, l1, 0, []⟩)
        exact ⟨hmd, .inr ⟨HUn.out, ⟨ax, ac, bx, bc, none, 0⟩, ⟨l0, l1, 0, []⟩, T, x, rfl, isErr_o HE.out HP7.out.zz (mod_row _ Z _)⟩⟩
    · have HUn := Lib.hid (show U = none by rw [← HU3.out, hp]; rfl)
      have HP5 := Lib.hid (HP4.out.call hm hRl hZw hOw)
      have c9 := (box_cells (Lib.hid HP5.out.oo)).2.1
      have f9 : w5.frozen? ⟨O, 1, none⟩ = false := by simp [World.frozen?, HP5.out.oo]
      have HP6 := Lib.hid (HP5.out.put1 hOw hZO (p := none) (c := 0) (l := []) (Kd.R_nil _ _ _ _ _))
      have HE := Lib.hid (isErr_o hi HP5.out.oo (mod_cell (wr := w5) (O := O) 1 (.slice none 0 0)))
      clear hm hh hp hi HU3 HP4 HH4 HP5
      go_upto_region 7 with fail
      generalize (w5.setCell ⟨O, 1, none⟩ (.slice none 0 0)) = w6 at *
      clear c9 f9
      go_wp2_with (first
        | (refine wl_loadM O ⟨ax, ac, none, 0, none, 0⟩ ⟨l0, [], 0, []⟩ HP6.out.oo rfl _ rfl rfl ?_)
        | (refine wl_storeM Z #[.slice none 0 0, .slice none 0 0, .int .i64 0, .slice none 0 0] rfl ⟨ax, ac, none, 0, none, 0⟩ ⟨l0, [], 0, []⟩ HP6.out.zz rfl _ _ rfl rfl rfl ?_))
      (try simp only [Exit.inBlock, Exit.then])
      refine bodyPost_ret (v := .tuple #[.agg (Loc.a ⟨ax, ac, none, 0, none, 0⟩ ⟨l0, [], 0, []⟩), (.iface T x)]) ?_ rfl ?_
      · exact parts_results _ _ Z _ (.iface T x) rfl rfl rfl (setRow_heap _ Z _ _ _ _ HP6.out.zz)
      obtain ⟨hat, hmd⟩ := HP6.out.fin hZw (Loc.a ⟨ax, ac, none, 0, none, 0⟩ ⟨l0, [], 0, []⟩)
      exact ⟨hmd, .inr ⟨HUn.out, ⟨ax, ac, none, 0, none, 0⟩, ⟨l0, [], 0, []⟩, T, x, rfl, isErr_o HE.out HP6.out.zz (mod_row _ Z _)⟩⟩
  · have HUn := Lib.hid (show U = none by rw [← HU.out]; unfold partsP; rw [hp]; rfl)
    have HP3 := Lib.hid (HP2.out.call hm hRl hZw hOw)
    have c9 := (box_cells (Lib.hid HP3.out.oo)).1
    have f9 : w3.frozen? ⟨O, 0, none⟩ = false := by simp [World.frozen?, HP3.out.oo]
    have HP4 := Lib.hid (HP3.out.put0 hOw hZO (p := none) (c := 0) (l := []) (Kd.R_nil _ _ _ _ _))
    have HE := Lib.hid (isErr_o hi HP3.out.oo (mod_cell (wr := w3) (O := O) 0 (.slice none 0 0)))
    clear hm hh hp hi HU HP2 HH2 HP3
    go_upto_region 4 with fail
    generalize (w3.setCell ⟨O, 0, none⟩ (.slice none 0 0)) = w4 at *
    clear c9 f9
    go_wp2_with (first
      | (refine wl_loadM O ⟨none, 0, none, 0, none, 0⟩ ⟨[], [], 0, []⟩ HP4.out.oo rfl _ rfl rfl ?_)
      | (refine wl_storeM Z #[.slice none 0 0, .slice none 0 0, .int .i64 0, .slice none 0 0] rfl ⟨none, 0, none, 0, none, 0⟩ ⟨[], [], 0, []⟩ HP4.out.zz rfl _ _ rfl rfl rfl ?_))
    (try simp only [Exit.inBlock, Exit.then])
    refine bodyPost_ret (v := .tuple #[.agg (Loc.a ⟨none, 0, none, 0, none, 0⟩ ⟨[], [], 0, []⟩), (.iface T x)]) ?_ rfl ?_
    · exact parts_results _ _ Z _ (.iface T x) rfl rfl rfl (setRow_heap _ Z _ _ _ _ HP4.out.zz)
    obtain ⟨hat, hmd⟩ := HP4.out.fin hZw (Loc.a ⟨none, 0, none, 0, none, 0⟩ ⟨[], [], 0, []⟩)
    exact ⟨hmd, .inr ⟨HUn.out, ⟨none, 0, none, 0, none, 0⟩, ⟨[], [], 0, []⟩, T, x, rfl, isErr_o HE.out HP4.out.zz (mod_row _ Z _)⟩⟩
end Go.Proofs.YtaodgnladjafoaaGreatDoor.Mni
namespace Go.Proofs.YtaodgnladjafoaaGreatDoor.Mni
open Go.RowKit Go.Proofs.YtaodgnladjafoaaGreatDoorW.PrintWords Go.Proofs.YtaodgnladjafoaaGreatDoorW.PrintLast Go.Proofs.YtaodgnladjafoaaGreatDoorW.PrintMore Go.Proofs.YtaodgnladjafoaaGreatDoor.Md Go.Proofs.YtaodgnladjafoaaGreatDoor.QStoreLasts Go.Proofs.YtaodgnladjafoaaGreatDoor.CdM
open Go.Proofs.YtaodgnladjafoaaGreatDoor.Err (Laid IsErr code_nil code_c Chain at_some at_nil)
open Go.Proofs.YtaodgnladjafoaaGreatDoor.Rdr (NumTo NumAt NoNumTo RefAt On Has refA)
open Classical in
noncomputable def readP (s : ByteArray) (size : Int) : Option Man := (partsP s 0).bind fun a => if a.2 = s.size ∧ rightM a.1 size = true then some a.1 else none
def zeroM : Man := ⟨[], [], 0, []⟩
def zeroL : Loc := ⟨none, 0, none, 0, none, 0⟩
theorem read_results (tmps : Array Value) (W : World) (b : Nat) (cs : Array Value) (e : Value) (hs : cs.size = 4) (h4 : tmps.getD 4 undef = .pointer (some ⟨b, 0, none⟩)) (h5 : tmps.getD 5 undef = e) (h : W.heap[b]? = some (Obj.cells cs 43 (0, 0))) : (results Tryz.f44 tmps).run Tryz.prog W = .ok (.tuple #[.agg cs, e]) W := by
  have hl : (loadVar 43 ⟨b, 0, none⟩).run Tryz.prog W = .ok (.agg cs) W := run_loadVar_row W b 43 43 cs (0, 0) _ h Tryz.underlying43 rfl (by rw [sizeM, hs])
  have h4' : tmps[4]?.getD undef = .pointer (some ⟨b, 0, none⟩) := by simpa using h4
  have h5' : tmps[5]?.getD undef = e := by simpa using h5
  simp [results, Tryz.results44, asAddr, h4', h5', hl]
theorem lay_pos (m : Man) : 1 ≤ (layM m).size := by
  unfold layM
  rw [ByteArray.size_append, ByteArray.size_append, ByteArray.size_append, one_numS]
  have := numS_pos m.refs.length
  omega
end Go.Proofs.YtaodgnladjafoaaGreatDoor.Mni
namespace Go.Proofs.YtaodgnladjafoaaGreatDoor.Mni
open Go.RowKit Go.Proofs.YtaodgnladjafoaaGreatDoorW.PrintWords Go.Proofs.YtaodgnladjafoaaGreatDoorW.PrintLast Go.Proofs.YtaodgnladjafoaaGreatDoorW.PrintMore Go.Proofs.YtaodgnladjafoaaGreatDoor.Md Go.Proofs.YtaodgnladjafoaaGreatDoor.QStoreLasts Go.Proofs.YtaodgnladjafoaaGreatDoor.CdM
open Go.Proofs.YtaodgnladjafoaaGreatDoor.Err (Laid IsErr code_nil code_c Chain at_some at_nil)
open Go.Proofs.YtaodgnladjafoaaGreatDoor.Rdr (NumTo NumAt NoNumTo RefAt On Has refA)
open Classical in
theorem Own.to {B B0 Z : Nat} {w w' : World} {o : Loc} {m : Man} (h : Own B w o m) (k : Mod (· = Z) w w') (hZ : Z < B) (hB : B0 ≤ B) : Own B0 w' o m :=
  ⟨Kd.F_mono (Kd.F_step h.1 (fun i hi hlt => k.block i hlt (fun (e : i = Z) => by omega))) (fun i hi => Nat.le_trans hB hi), Kd.F_mono (Kd.F_step h.2.1 (fun i hi hlt => k.block i hlt (fun (e : i = Z) => by omega))) (fun i hi => Nat.le_trans hB hi), Kd.F_mono (Kd.F_step h.2.2 (fun i hi hlt => k.block i hlt (fun (e : i = Z) => by omega))) (fun i hi => Nat.le_trans hB hi)⟩
set_option maxHeartbeats 4000000 in
set_option maxRecDepth 100000 in
theorem read_o (s : ByteArray) (size : Int) (w : World) (hs : s.size ≤ 4611686018427387904) :
    Calls Tryz.prog 44 #[.string s, .int .i64 size] w fun ev w' => Below w.heap.size w w' ∧ ((∃ m o', readP s size = some m ∧ partsP s 0 = some (m, s.size) ∧ rightM m size = true ∧ ev = .returned (.tuple #[.agg (Loc.a o' m), .nilIface]) ∧ (At w' o' m ∧ Own w.heap.size w' o' m)) ∨ (readP s size = none ∧ ∃ T x, ev = .returned (.tuple #[.agg (Loc.a zeroL zeroM), .iface T x]) ∧ IsErr w' (.iface T x) 13)) := by
  obtain ⟨U, hU⟩ : ∃ U, readP s size = U := ⟨_, rfl⟩
  have HU := Lib.hid hU
  rw [hU]
  clear hU
  go_enter Tryz.func44, Tryz.ntmps44
  go_upto_region 1 with (first | (refine wl_allocM rfl rfl ?_))
  have HB1 := Lib.hid (show Below w.heap.size w (w.alloc (Obj.cells #[.slice none 0 0, .slice none 0 0, .int .i64 0, .slice none 0 0] 43 (0, 0))) from (Below.refl _ _).alloc (Nat.le_refl _) _)
  have HZ1 := Lib.hid (heap_alloc_last w (Obj.cells #[.slice none 0 0, .slice none 0 0, .int .i64 0, .slice none 0 0] 43 (0, 0)))
  obtain ⟨Z, hZ⟩ : ∃ Z, w.heap.size = Z := ⟨_, rfl⟩
  have hZw : w.heap.size ≤ Z := Nat.le_of_eq hZ
  have HZw := Lib.hid hZw
  rw [hZ] at HZ1
  simp only [hZ]
  generalize (w.alloc (Obj.cells #[.slice none 0 0, .slice none 0 0, .int .i64 0, .slice none 0 0] 43 (0, 0))) = w1 at *
  clear hZ hZw
  go_wp2_with fail
  refine (Rdr.new_c s w1).mono ?_
  rintro e w2 ⟨rfl, hh, hd⟩
  have hRw : w.heap.size ≤ w1.heap.size := HB1.out.size
  have HB1z := Lib.hid hRw
  have HZs := Lib.hid hd.size
  have hZR := Err.lt_of_block HZ1.out
  have HB2 := below_to HB1 (Nat.le_refl _) hd
  have HZ2 := blk_to HZ1 hd
  obtain ⟨R, hR⟩ : ∃ R, w1.heap.size = R := ⟨_, rfl⟩
  rw [hR] at hh hRw hZR ⊢
  have HH2 := Lib.hid hh
  have hZ2 : Z < w2.heap.size := Err.lt_of_block HZ2.out
  clear hh hd hR HB1 HZ1
  go_wp2_with fail
  refine (parts_c R s 0 w2 HH2 hs).mono ?_
  rintro e w3 ⟨hm, ⟨m, q, o, hp, rfl, hat, hh⟩ | ⟨hp, o, m, T, x, rfl, hi⟩⟩
  · have HB3 := Lib.hid (HB2.out.trans (hm.below HB2.out.size (fun i hi (e : i = R) => by omega)))
    have HZ3 := Lib.hid (hm.blk HZ2.out (fun (e : Z = R) => by omega))
    have HA3 := Lib.hid hat.1
    have HW3 := Lib.hid hat.2
    have HH3 := Lib.hid hh
    obtain ⟨p1, p2, p3, p4, p5, p6⟩ := parts_on hp
    have hle := p1.le (lay_pos m)
    have hqs : q ≤ s.size := by omega
    have HPp := Lib.hid hp
    clear hm hat hh hp p1 p2 p3 HB2 HZ2 HH2 hle
    go_upto_region 3 with (first
      | (refine wl_allocM rfl rfl ?_)
      | (refine wl_storeMn #[.slice none 0 0, .slice none 0 0, .int .i64 0, .slice none 0 0] rfl o m rfl _ _ rfl rfl rfl ?_))
    have hd : Below w3.heap.size w3 (w3.alloc (Obj.cells (o.a m) 43 (0, 0))) := (Below.refl _ _).alloc (Nat.le_refl _) _
    have HB4 := below_to HB3 (Nat.le_refl _) hd
    have HZ4 := blk_to HZ3 hd
    have HA4 := Lib.hid (HA3.out.on hd)
    have HW4 := Lib.hid (HW3.out.on hd)
    have HH4 := Lib.hid (has_b HH3.out hd (Err.lt_of_block HH3.out))
    have HO4 := Lib.hid (heap_alloc_last w3 (Obj.cells (o.a m) 43 (0, 0)))
    obtain ⟨O, hO⟩ : ∃ O, w3.heap.size = O := ⟨_, rfl⟩
    rw [hO] at HO4
    simp only [hO]
    generalize (w3.alloc (Obj.cells (o.a m) 43 (0, 0))) = w4 at *
    clear hd hO HB3 HZ3 HA3 HH3 HW3
    go_wp2_with fail
    refine (Rdr.left_c R s q w4 HH4 hqs hs).mono ?_
    rintro e w5 ⟨rfl, _, hd⟩
    have HB5 := below_to HB4 (Nat.le_refl _) hd
    have HZ5 := blk_to HZ4 hd
    have HO5 := blk_to HO4 hd
    have HA5 := Lib.hid (HA4.out.on hd)
    have HW5 := Lib.hid (HW4.out.on hd)
    clear hd HB4 HZ4 HO4 HA4 HH4 HW4
    by_cases hq : q = s.size
    · obtain ⟨L, hL⟩ : ∃ L : Int, ((s.size : Int) - (q : Int)) = L := ⟨_, rfl⟩
      have hL0 : L = 0 := by omega
      subst hL0
      rw [hL]
      clear hL
      go_wp2_with (first | (refine wg_loadM O o m HO5.out (by rfl) _ rfl rfl ?_))
      refine (right_c o m size w5 HA5 (by omega) (by omega)).mono ?_
      rintro e w6 ⟨rfl, hd⟩
      have HB6 := below_to HB5 (Nat.le_refl _) hd
      have HZ6 := blk_to HZ5 hd
      have HO6 := blk_to HO5 hd
      have HA6 := Lib.hid (HA5.out.on hd)
      have HW6 := Lib.hid (HW5.out.on hd)
      clear hd HB5 HZ5 HO5 HA5 HW5
      obtain ⟨b, hb⟩ : ∃ b, rightM m size = b := ⟨_, rfl⟩
      rw [hb]
      cases b with
      | true =>
        have HUs := Lib.hid (show U = some m by rw [← HU.out]; unfold readP; rw [HPp.out, Option.bind_some, if_pos ⟨hq, hb⟩])
        have HRb := Lib.hid hb
        clear hb HU
        go_wp2_with (first
          | (refine wl_loadM O o m HO6.out rfl _ rfl rfl ?_)
          | (refine wl_storeM Z #[.slice none 0 0, .slice none 0 0, .int .i64 0, .slice none 0 0] rfl o m HZ6.out rfl _ _ rfl rfl rfl ?_))
        (try simp only [Exit.inBlock, Exit.then])
        refine bodyPost_ret (v := .tuple #[.agg (Loc.a o m), .nilIface]) ?_ rfl ?_
        · exact read_results _ _ Z _ .nilIface rfl rfl rfl (setRow_heap w6 Z _ _ _ _ HZ6.out)
        have hm := mod_row w6 Z (Loc.a o m)
        have hbel := HB6.out.trans (hm.below HB6.out.size (fun i hi (e : i = Z) => by have := HZw.out; omega))
        exact ⟨hbel, .inl ⟨m, o, HUs.out, by rw [HPp.out, hq], HRb.out, rfl, HW6.out.at_ HA6.out hm hZ2, HW6.out.to hm hZ2 (Nat.le_trans HB1z.out HZs.out)⟩⟩
      | false =>
        have HUn := Lib.hid (show U = none by rw [← HU.out]; unfold readP; rw [HPp.out, Option.bind_some, if_neg (fun h => by rw [hb] at h; cases h.2)])
        clear hb HU
        go_wp2_with fail
        refine (at_err _ _ 13 w6).mono ?_
        rintro e w7 ⟨T, x, rfl, he, hd⟩
        have HB7 := below_to HB6 (Nat.le_refl _) hd
        have HZ7 := blk_to HZ6 hd
        have HE7 := Lib.hid he
        clear he hd HB6 HZ6 HO6 HA6
        go_wp2_with (first
          | (refine wl_storeM Z #[.slice none 0 0, .slice none 0 0, .int .i64 0, .slice none 0 0] rfl zeroL zeroM HZ7.out rfl _ _ rfl rfl rfl ?_))
        (try simp only [Exit.inBlock, Exit.then])
        refine bodyPost_ret (v := .tuple #[.agg (Loc.a zeroL zeroM), .iface T x]) ?_ rfl ?_
        · exact read_results _ _ Z _ (.iface T x) rfl rfl rfl (setRow_heap w7 Z _ _ _ _ HZ7.out)
        have hm := mod_row w7 Z (Loc.a zeroL zeroM)
        have hbel := HB7.out.trans (hm.below HB7.out.size (fun i hi (e : i = Z) => by have := HZw.out; omega))
        exact ⟨hbel, .inr ⟨HUn.out, T, x, rfl, isErr_o HE7.out HZ7.out hm⟩⟩
    · obtain ⟨L, hL⟩ : ∃ L : Int, ((s.size : Int) - (q : Int)) = L := ⟨_, rfl⟩
      have hL0 : 0 < L := by omega
      rw [hL]
      have t1 : decide (L > 0) = true := decide_eq_true hL0
      have t1b : decide (0 < L) = true := decide_eq_true hL0
      have HUn := Lib.hid (show U = none by rw [← HU.out]; unfold readP; rw [HPp.out, Option.bind_some, if_neg (fun h => hq h.1)])
      clear hL HU hq
      go_wp2_with fail
      refine (at_err _ _ 13 w5).mono ?_
      rintro e w7 ⟨T, x, rfl, he, hd⟩
      have HB7 := below_to HB5 (Nat.le_refl _) hd
      have HZ7 := blk_to HZ5 hd
      have HE7 := Lib.hid he
      clear he hd HB5 HZ5 HO5 HA5
      go_wp2_with (first
        | (refine wl_storeM Z #[.slice none 0 0, .slice none 0 0, .int .i64 0, .slice none 0 0] rfl zeroL zeroM HZ7.out rfl _ _ rfl rfl rfl ?_))
      (try simp only [Exit.inBlock, Exit.then])
      refine bodyPost_ret (v := .tuple #[.agg (Loc.a zeroL zeroM), .iface T x]) ?_ rfl ?_
      · exact read_results _ _ Z _ (.iface T x) rfl rfl rfl (setRow_heap w7 Z _ _ _ _ HZ7.out)
      have hm := mod_row w7 Z (Loc.a zeroL zeroM)
      have hbel := HB7.out.trans (hm.below HB7.out.size (fun i hi (e : i = Z) => by have := HZw.out; omega))
      exact ⟨hbel, .inr ⟨HUn.out, T, x, rfl, isErr_o HE7.out HZ7.out hm⟩⟩
  · have HB3 := Lib.hid (HB2.out.trans (hm.below HB2.out.size (fun i hi (e : i = R) => by omega)))
    have HZ3 := Lib.hid (hm.blk HZ2.out (fun (e : Z = R) => by omega))
    have HE3 := Lib.hid hi
    have HUn := Lib.hid (show U = none by rw [← HU.out]; unfold readP; rw [hp]; rfl)
    clear hm hi hp HB2 HZ2 HH2 HU
    go_upto_region 3 with (first
      | (refine wl_allocM rfl rfl ?_)
      | (refine wl_storeMn #[.slice none 0 0, .slice none 0 0, .int .i64 0, .slice none 0 0] rfl o m rfl _ _ rfl rfl rfl ?_))
    have hd : Below w3.heap.size w3 (w3.alloc (Obj.cells (o.a m) 43 (0, 0))) := (Below.refl _ _).alloc (Nat.le_refl _) _
    have HB4 := below_to HB3 (Nat.le_refl _) hd
    have HZ4 := blk_to HZ3 hd
    generalize (w3.alloc (Obj.cells (o.a m) 43 (0, 0))) = w4 at *
    clear hd HB3 HZ3 HE3
    go_wp2_with fail
    refine (at_err _ _ 13 w4).mono ?_
    rintro e w7 ⟨T2, x2, rfl, he, hd⟩
    have HB7 := below_to HB4 (Nat.le_refl _) hd
    have HZ7 := blk_to HZ4 hd
    have HE7 := Lib.hid he
    clear he hd HB4 HZ4
    go_wp2_with (first
      | (refine wl_storeM Z #[.slice none 0 0, .slice none 0 0, .int .i64 0, .slice none 0 0] rfl zeroL zeroM HZ7.out rfl _ _ rfl rfl rfl ?_))
    (try simp only [Exit.inBlock, Exit.then])
    refine bodyPost_ret (v := .tuple #[.agg (Loc.a zeroL zeroM), .iface T2 x2]) ?_ rfl ?_
    · exact read_results _ _ Z _ (.iface T2 x2) rfl rfl rfl (setRow_heap w7 Z _ _ _ _ HZ7.out)
    have hm := mod_row w7 Z (Loc.a zeroL zeroM)
    have hbel := HB7.out.trans (hm.below HB7.out.size (fun i hi (e : i = Z) => by have := HZw.out; omega))
    exact ⟨hbel, .inr ⟨HUn.out, T2, x2, rfl, isErr_o HE7.out HZ7.out hm⟩⟩
end Go.Proofs.YtaodgnladjafoaaGreatDoor.Mni
