/- DiskPlays: the state between two acts. -/
import Derived.Test.YtoanhafbofphgaaDoorDiskPlays0
set_option linter.unusedVariables false
set_option linter.unusedSimpArgs false
namespace Go.Proofs.YtoanhafbofphgaaDoor.Rfd
open Go.RowKit Go.Proofs.YtoanhafbofphgaaDoorW.PrintWords Go.Proofs.YtoanhafbofphgaaDoorW.PrintLast Go.Proofs.YtoanhafbofphgaaDoorW.PrintMore Go.Proofs.YtoanhafbofphgaaDoor.Md Go.Proofs.YtoanhafbofphgaaDoor.Dk
open Go.Extern.Stop (cell)
open Go.Proofs.YtoanhafbofphgaaDoor.Err (Laid IsErr code_nil code_c Chain at_some at_nil)
theorem kept_len (mask : Nat) : ∀ (l : List (Int × Pg)) (n : Nat), (kept mask l n).length ≤ l.length
  | [], _ => Nat.le_refl _
  | x :: l, n => by
    have h := kept_len mask l (n + 1)
    unfold kept
    split
    · simpa using h
    · exact Nat.le_trans h (Nat.le_succ _)
structure Stt (W wr : World) (R M X : Nat) (v : Value) (r : RV) (d : RD) (z : Int) (i : Nat) : Prop where
  pl : Pl W wr R M X v r d.dsk d
  sz : d.size = z
  lo : -1 ≤ d.budget
  hi : d.budget < 9223372036854775808
  ln : d.L.length ≤ i
section
variable {W wr w1 : World} {R M X i j : Nat} {v v1 : Value} {r r1 : RV} {d d1 : RD} {D : Dsk} {z : Int}
theorem Stt.on (h : Stt W wr R M X v r d z i) (k : Below wr.heap.size wr w1) : Stt W w1 R M X v r d z i := { h with pl := h.pl.on k }
theorem Stt.le (h : Stt W wr R M X v r d z i) (k : i ≤ j) : Stt W wr R M X v r d z j := { h with ln := Nat.le_trans h.ln k }
theorem Stt.laid (h : Stt W wr R M X v r d z i) (hg : Hid (Laid W)) : Hid (Laid wr) := Lib.hid (hg.out.on h.pl.bel)
theorem Stt.xdown (h : Stt W wr R M X v r d z i) : wr.cell? ⟨X, 4, none⟩ = some (.bool d.down) := by
  rw [(rv_cells (Lib.hid h.pl.xx)).2.2.2.2.1, h.pl.ref.down]
theorem Stt.softs (h : Stt W wr R M X v r d z i) : d.S.length ≤ i := by
  have := h.ln
  unfold RD.L at this
  rw [List.length_append] at this
  omega
theorem Stt.fz (h : Stt W wr R M X v r d z i) (j : Nat) : wr.frozen? ⟨X, j, none⟩ = false := rv_fz (Lib.hid h.pl.xx) j
theorem Stt.dsk (h : Stt W wr R M X v r d z i) : Hid (IsD wr R M v d.dsk) := Lib.hid h.pl.dsk
theorem Stt.ref (h : Stt W wr R M X v r d z i) : Hid (IsR wr r d) := Lib.hid h.pl.ref
/-- a disk of the document's stored into X -/
theorem Pl.stored (h : Pl W wr R M X v r D d) (h1 : IsR wr r1 d1) : Pl W (wr.setRow X r1.a) R M X v r1 D d1 :=
  h.setX (mod_row wr X r1.a) (rowD wr X r r1 h.xx) h1
/-- X's down, X's budget -/
theorem Pl.putDown (h : Pl W wr R M X v r D d) (b : Bool) : Pl W (wr.setCell ⟨X, 4, none⟩ (.bool b)) R M X v { r with down := b } D { d with down := b } :=
  h.setX ((Mod.refl (· = X) wr).set ⟨X, 4, none⟩ _ (.inl rfl)) (rv_set (Lib.hid h.xx) 4 _ rfl) { size := h.ref.size, down := rfl, budget := h.ref.budget, x := h.ref.x, y := h.ref.y, z := h.ref.z }
theorem Pl.putBudget (h : Pl W wr R M X v r D d) (b : Int) : Pl W (wr.setCell ⟨X, 5, none⟩ (.int .i64 b)) R M X v { r with budget := b } D { d with budget := b } :=
  h.setX ((Mod.refl (· = X) wr).set ⟨X, 5, none⟩ _ (.inl rfl)) (rv_set (Lib.hid h.xx) 5 _ rfl) { size := h.ref.size, down := h.ref.down, budget := rfl, x := h.ref.x, y := h.ref.y, z := h.ref.z }
theorem mod_x (b : Value) (j : Nat) : Mod (· = X) wr (wr.setCell ⟨X, j, none⟩ b) := (Mod.refl (· = X) wr).set ⟨X, j, none⟩ _ (.inl rfl)
/-- Settle on both sides -/
theorem Stt.settled (h : Stt W wr R M X v r d z i) {mask : Nat} {b : Bool} (p : Pl W w1 R M X v1 r1 { d.dsk with firm := stl mask d.dsk.firm d.dsk.soft 0, soft := [], down := b } { d.settled mask with down := b }) : Stt W w1 R M X v1 r1 { d.settled mask with down := b } z i := by
  have e : ({ d.dsk with firm := stl mask d.dsk.firm d.dsk.soft 0, soft := [], down := b } : Dsk) = ({ d.settled mask with down := b } : RD).dsk := by
    have := d.settled_dsk mask
    unfold RD.dsk RD.settled at this ⊢
    simp only at this ⊢
    injection this with _ g _ _ _
    rw [g]
  rw [e] at p
  refine ⟨p, h.sz, h.lo, h.hi, ?_⟩
  have h1 := kept_len mask d.S 0
  have h2 := h.ln
  unfold RD.L at h2 ⊢
  unfold RD.settled
  simp only [List.length_append, List.length_nil] at h2 ⊢
  omega
theorem settled_same (d : RD) (mask : Nat) : ({ d.settled mask with down := d.down } : RD) = d.settled mask := rfl
/-- a write that went well, on both sides -/
theorem Stt.wroteOk (h : Stt W wr R M X v r d z i) {k : Int} {p : Pg} (q : Pl W w1 R M X v1 r1 { d.dsk with soft := d.dsk.soft ++ [(k, p)], budget := max (d.dsk.budget - 1) (-1) } { d with S := d.S ++ [(k, p)], budget := max (d.budget - 1) (-1) }) : Stt W w1 R M X v1 r1 { d with S := d.S ++ [(k, p)], budget := max (d.budget - 1) (-1) } z (i + 1) := by
  have h1 := h.lo
  have h2 := h.hi
  have h3 := h.ln
  refine ⟨q, h.sz, ?_, ?_, ?_⟩
  · show -1 ≤ max (d.budget - 1) (-1); omega
  · show max (d.budget - 1) (-1) < _; omega
  · unfold RD.L at h3 ⊢
    simp only [List.length_append, List.length_cons, List.length_nil] at h3 ⊢
    omega
end
/-- what a write answers, and what it leaves behind -/
def wcd (d : RD) (k : Int) : Int := if d.down then 11 else if k < 0 ∨ d.size ≤ k then 1 else if d.budget = 0 then 10 else 0
def wrote (d : RD) (k : Int) (p : Pg) : RD := if wcd d k = 0 then { d with S := d.S ++ [(k, p)], budget := max (d.budget - 1) (-1) } else d
theorem rwrite_c (r : RV) (d : RD) (k : Int) (p : Pg) (w : World) (h : Hid (IsR w r d)) (lo : -1 ≤ d.budget) (hi : d.budget < 9223372036854775808) (hl : d.L.length ≤ 1000) :
    Calls Tryd.prog 20 #[.agg r.a, .int .i64 k, pv p] w fun e w' => ∃ r', e = .returned (.tuple #[.agg r'.a, .int .i64 (wcd d k)]) ∧ IsR w' r' (wrote d k p) ∧ Below w.heap.size w w' := by
  have hd := h.out.down
  have hz := h.out.size
  have hb := h.out.budget
  cases hdn : d.down with
  | true =>
    have e : wcd d k = 11 := by unfold wcd; rw [hdn]; rfl
    have e2 : wrote d k p = d := by unfold wrote; rw [e]; rfl
    refine (rwrite_down r k p w (by rw [hd, hdn])).mono ?_
    rintro _ w' ⟨rfl, hd⟩
    exact ⟨r, by rw [e], by rw [e2]; exact h.out.on hd, hd⟩
  | false =>
    by_cases h0 : k < 0
    · have e : wcd d k = 1 := by unfold wcd; rw [hdn, if_neg (by decide), if_pos (.inl h0)]
      have e2 : wrote d k p = d := by unfold wrote; rw [e]; rfl
      refine (rwrite_low r k p w (by rw [hd, hdn]) h0).mono ?_
      rintro _ w' ⟨rfl, hd⟩
      exact ⟨r, by rw [e], by rw [e2]; exact h.out.on hd, hd⟩
    · by_cases h1 : d.size ≤ k
      · have e : wcd d k = 1 := by unfold wcd; rw [hdn, if_neg (by decide), if_pos (.inr h1)]
        have e2 : wrote d k p = d := by unfold wrote; rw [e]; rfl
        refine (rwrite_high r k p w (by rw [hd, hdn]) (by omega) (by omega)).mono ?_
        rintro _ w' ⟨rfl, hd⟩
        exact ⟨r, by rw [e], by rw [e2]; exact h.out.on hd, hd⟩
      · by_cases h2 : d.budget = 0
        · have e : wcd d k = 10 := by unfold wcd; rw [hdn, if_neg (by decide), if_neg (by omega), if_pos h2]
          have e2 : wrote d k p = d := by unfold wrote; rw [e]; rfl
          refine (rwrite_spent r k p w (by rw [hd, hdn]) (by omega) (by omega) (by omega)).mono ?_
          rintro _ w' ⟨rfl, hd⟩
          exact ⟨r, by rw [e], by rw [e2]; exact h.out.on hd, hd⟩
        · have e : wcd d k = 0 := by unfold wcd; rw [hdn, if_neg (by decide), if_neg (by omega), if_neg h2]
          have e2 : wrote d k p = { d with S := d.S ++ [(k, p)], budget := max (d.budget - 1) (-1) } := by unfold wrote; rw [e]; rfl
          by_cases h3 : d.budget = -1
          · refine (rwrite_free r d k p w h (by rw [hd, hdn]) (by omega) (by omega) (by omega) (by omega) hl _ (Lib.hid rfl)).mono ?_
            rintro _ w' ⟨r', rfl, hr, hd⟩
            exact ⟨r', by rw [e], by rw [e2]; exact hr, hd⟩
          · refine (rwrite_pos r d k p w h (by rw [hd, hdn]) (by omega) (by omega) (by omega) (by omega) hl _ (Lib.hid rfl)).mono ?_
            rintro _ w' ⟨r', rfl, hr, hd⟩
            exact ⟨r', by rw [e], by rw [e2]; exact hr, hd⟩
theorem may_split (d : RD) (k : Int) : mayN d.dsk k = (if d.down = true then 11 else if k < 0 ∨ d.size ≤ k then 1 else 0) := rfl
theorem may_ok {d : RD} {k : Int} (hm : mayN d.dsk k = 0) : d.down = false ∧ ¬ (k < 0 ∨ d.size ≤ k) := by
  rw [may_split] at hm
  by_cases c : d.down = true
  · rw [if_pos c] at hm; omega
  · rw [if_neg c] at hm
    refine ⟨by simpa using c, fun hc => ?_⟩
    rw [if_pos hc] at hm; omega
theorem dwrite_c (d : RD) (k : Int) (p : Pg) (w : World) (R M : Nat) (v : Value) (h : Hid (IsD w R M v d.dsk)) (lo : -1 ≤ d.budget) (hi : d.budget < 9223372036854775808) (hl : d.S.length ≤ 1000) :
    Calls Tryd.prog 12 #[.pointer (some ⟨R, 0, none⟩), .int .i64 k, pv p] w fun ev w' => ∃ E v', ev = .returned E ∧ IsErr w' E (wcd d k) ∧ Mod (Ft R M v) w w' ∧ IsD w' R M v' (wrote d k p).dsk ∧ (v'.ownBlock = v.ownBlock ∨ ∃ b, v'.ownBlock = some b ∧ w.heap.size ≤ b) := by
  by_cases hm : mayN d.dsk k = 0
  · by_cases h2 : d.budget = 0
    · have hf := may_ok hm
      have e : wcd d k = 10 := by unfold wcd; rw [hf.1, if_neg (by decide), if_neg hf.2, if_pos h2]
      have e2 : wrote d k p = d := by unfold wrote; rw [e]; rfl
      refine (write_spent w R M v d.dsk k p h hm h2).mono ?_
      rintro _ w' ⟨T, x, rfl, he, hd⟩
      exact ⟨_, v, rfl, by rw [e]; exact he, Mod.of_below hd (Nat.le_refl _), by rw [e2]; exact h.out.on hd, .inl rfl⟩
    · have hf := may_ok hm
      have e : wcd d k = 0 := by unfold wcd; rw [hf.1, if_neg (by decide), if_neg hf.2, if_neg h2]
      have e2 : wrote d k p = { d with S := d.S ++ [(k, p)], budget := max (d.budget - 1) (-1) } := by unfold wrote; rw [e]; rfl
      have hk := hf.2
      refine (write_ok w R M v d.dsk k p h (Lib.hid hf.1) (by omega) (by show k < d.size; omega) h2 lo hi hl).mono ?_
      rintro _ w' ⟨rfl, v', hm', hd', hv'⟩
      exact ⟨_, v', rfl, by rw [e]; exact .inl ⟨rfl, rfl⟩, hm', by rw [e2]; exact hd', hv'⟩
  · have e : wcd d k = mayN d.dsk k := by
      rw [may_split] at hm ⊢
      unfold wcd
      by_cases c : d.down = true
      · rw [if_pos c, if_pos c]
      · rw [if_neg c] at hm ⊢
        rw [if_neg c]
        by_cases hc : k < 0 ∨ d.size ≤ k
        · rw [if_pos hc, if_pos hc]
        · rw [if_neg hc] at hm; exact absurd rfl hm
    have e2 : wrote d k p = d := by unfold wrote; rw [e, if_neg hm]
    refine (write_may w R M v d.dsk k p h hm).mono ?_
    rintro _ w' ⟨T, x, rfl, he, hd⟩
    exact ⟨_, v, rfl, by rw [e]; exact he, Mod.of_below hd (Nat.le_refl _), by rw [e2]; exact h.out.on hd, .inl rfl⟩
theorem dread_c (d : RD) (k : Int) (w : World) (R M : Nat) (v : Value) (h : Hid (IsD w R M v d.dsk)) (hl : d.S.length ≤ 1000) :
    Calls Tryd.prog 13 #[.pointer (some ⟨R, 0, none⟩), .int .i64 k] w fun ev w' => ∃ E, ev = .returned (.tuple #[pv (if mayN d.dsk k = 0 then rdl d.L k else pz), E]) ∧ IsErr w' E (mayN d.dsk k) ∧ Below w.heap.size w w' := by
  by_cases hm : mayN d.dsk k = 0
  · refine (read_ok w R M v d.dsk k h hm hl).mono ?_
    rintro _ w' ⟨rfl, hd⟩
    rw [RD.rd_dsk]
    exact ⟨_, by rw [if_pos hm], by rw [hm]; exact .inl ⟨rfl, rfl⟩, hd⟩
  · refine (read_may w R M v d.dsk k h hm).mono ?_
    rintro _ w' ⟨T, x, rfl, he, hd⟩
    exact ⟨_, by rw [if_neg hm], he, hd⟩
theorem wrote_soft (d : RD) (k : Int) (p : Pg) : (wrote d k p).S.length = d.S.length + (if wcd d k = 0 then 1 else 0) := by
  unfold wrote
  split <;> simp
section
variable {W wr w1 : World} {R M X i : Nat} {v v1 : Value} {r r1 : RV} {d : RD} {z : Int}
theorem Stt.wrt (h : Stt W wr R M X v r d z i) {k : Int} {p : Pg} (q : Pl W w1 R M X v1 r1 (wrote d k p).dsk (wrote d k p)) : Stt W w1 R M X v1 r1 (wrote d k p) z (i + 1) := by
  by_cases e : wcd d k = 0
  · unfold wrote at q ⊢
    rw [if_pos e] at q ⊢
    exact h.wroteOk q
  · unfold wrote at q ⊢
    rw [if_neg e] at q ⊢
    exact ⟨q, h.sz, h.lo, h.hi, Nat.le_trans h.ln (Nat.le_succ _)⟩
end
theorem mayN_range (d : RD) (k : Int) (z : Int) (hz : d.size = z) : mayN d.dsk k = (if d.down then 11 else if k < 0 ∨ z ≤ k then 1 else 0) := by
  subst hz
  rfl
theorem rread_p (r : RV) (d : RD) (k : Int) (P : Pg) (w : World) (hP : Hid (P = rdl d.L k)) (h : Hid (IsR w r d)) (hl : d.L.length ≤ 1000) : Calls Tryd.prog 21 #[.agg r.a, .int .i64 k] w fun e w' => e = .returned (pv P) ∧ Below w.heap.size w w' := by
  rw [hP.out]
  exact rread_c r d k w h hl
theorem exec_ld30 {ρ : Operand → Value} {o : Oper} {x : Operand} {W : World} {b : Nat} {p : Pg} (ho : o.op = .load 30 x) (hx : ρ x = .pointer (some ⟨b, 0, none⟩)) (hp : W.heap[b]? = some (Obj.cells (pa p) 30 (0, 0))) : (execOp ρ o).run Tryd.prog W = .ok (.value (pv p)) W := by
  unfold execOp; simp only [ho, hx, run_load30 W b p hp, Sem.run_bind, Sem.run_pure, Result.andThen_ok]
theorem exec_bd30 {ρ : Operand → Value} {o : Oper} {W : World} (ho : o.op = .build 30 #[]) : (execOp ρ o).run Tryd.prog W = .ok (.value (pv pz)) W := by
  unfold execOp; simp only [ho]; kernel_rfl
theorem exec_ne30 {ρ : Operand → Value} {o : Oper} {x y : Operand} {W : World} {p : Pg} (ho : o.op = .binOp .neq 30 x y 30) (hx : ρ x = pv p) (hy : ρ y = pv p) : (execOp ρ o).run Tryd.prog W = .ok (.value (.bool false)) W := by
  have hs : (p.1 != p.1) = false := by simp
  unfold execOp
  simp only [ho, hx, hy, eqG .neq x y p p W, neqP p p W, hs, Sem.run_bind, Sem.run_pure, Result.andThen_ok]
end Go.Proofs.YtoanhafbofphgaaDoor.Rfd
