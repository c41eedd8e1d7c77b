/- A disk of eight sectors beside eight sectors in a variable, and acts that came in: what a law's walk carries. -/
import Derived.Test.YtoanhafbofphgaaDoorEight
import Derived.Test.YtoanhafbofphgaaDoorActs
set_option linter.unusedVariables false
set_option linter.unusedSimpArgs false
namespace Go.Proofs.YtoanhafbofphgaaDoor.Dk
open Go.RowKit Go.Proofs.YtoanhafbofphgaaDoorW.PrintWords Go.Proofs.YtoanhafbofphgaaDoorW.PrintLast Go.Proofs.YtoanhafbofphgaaDoorW.PrintMore Go.Proofs.YtoanhafbofphgaaDoor.Md
open Go.Extern.Stop (cell)
open Go.Proofs.YtoanhafbofphgaaDoor.Err (Laid IsErr code_nil Chain at_some at_nil)
/-- the disk and the eight sectors beside it -/
structure Lst (W wr : World) (R M B : Nat) (v : Value) (d : Dsk) (L : Nat → Pg) (n : Nat) : Prop where
  bel : Below W.heap.size W wr
  dsk : IsD wr R M v d
  fr : Fr W.heap.size R M v
  nb : ∀ i, Ft R M v i → i ≠ B
  hB : W.heap.size ≤ B
  dn : d.down = false
  sz : d.size = 8
  bu : d.budget = -1
  ln : d.soft.length ≤ n
  eig : Eight wr B L
theorem Lst.on {W wr w2 : World} {R M B n : Nat} {v : Value} {d : Dsk} {L : Nat → Pg} (h : Lst W wr R M B v d L n) (k : Below wr.heap.size wr w2) : Lst W w2 R M B v d L n :=
  { h with bel := h.bel.trans (k.mono h.bel.size), dsk := h.dsk.on k, eig := h.eig.mod (Mod.of_below (S := fun _ => False) k (Nat.le_refl _)) (fun h => h) }
theorem Lst.flush {W wr w2 : World} {R M B n : Nat} {v : Value} {d : Dsk} {L : Nat → Pg} (h : Lst W wr R M B v d L n) (k : Mod (Ft R M v) wr w2) (hd : IsD w2 R M (.slice none 0 0) { d with firm := stl 18446744073709551615 d.firm d.soft 0, soft := [] }) :
    Lst W w2 R M B (.slice none 0 0) { d with firm := stl 18446744073709551615 d.firm d.soft 0, soft := [] } L n :=
  { bel := h.bel.trans (k.below h.bel.size (fun i hi e => by have := h.fr i e; omega)), dsk := hd, fr := h.fr.settle, nb := by
      rintro i (rfl | rfl | e)
      · exact h.nb _ (.inl rfl)
      · exact h.nb _ (.inr (.inl rfl))
      · simp [Value.ownBlock] at e
    hB := h.hB, dn := h.dn, sz := h.sz, bu := h.bu, ln := Nat.zero_le _, eig := h.eig.mod k (fun e => h.nb _ e rfl) }
theorem Lst.write {W wr w2 : World} {R M B n : Nat} {v v' : Value} {d : Dsk} {L : Nat → Pg} {j : Int} {p : Pg} (h : Lst W wr R M B v d L n) (k : Mod (Ft R M v) wr w2) (hd : IsD w2 R M v' { d with soft := d.soft ++ [(j, p)], budget := max (d.budget - 1) (-1) })
    (hv : v'.ownBlock = v.ownBlock ∨ ∃ b, v'.ownBlock = some b ∧ wr.heap.size ≤ b) : Lst W w2 R M B v' { d with soft := d.soft ++ [(j, p)], budget := -1 } L (n + 1) :=
  { bel := h.bel.trans (k.below h.bel.size (fun i hi e => by have := h.fr i e; omega)), dsk := by rw [h.bu] at hd; exact hd, fr := h.fr.write h.bel.size hv, nb := by
      rintro i (rfl | rfl | e)
      · exact h.nb _ (.inl rfl)
      · exact h.nb _ (.inr (.inl rfl))
      · rcases hv with g | ⟨b, g, hb⟩
        · exact h.nb _ (.inr (.inr (by rw [← g]; exact e)))
        · rw [g] at e; cases e
          have := h.eig.lt
          omega
    hB := h.hB, dn := h.dn, sz := h.sz, bu := rfl, ln := by show (d.soft ++ [(j, p)]).length ≤ n + 1; rw [List.length_append]; have := h.ln; simp; omega, eig := h.eig.mod k (fun e => h.nb _ e rfl) }
theorem Lst.put {W wr : World} {R M B n : Nat} {v : Value} {d : Dsk} {L : Nat → Pg} (h : Lst W wr R M B v d L n) (j : Nat) (hj : j < 8) (p : Pg) : Lst W (wr.setCells B (j * 64) (pcs p)) R M B v d (upN L j p) n :=
  have hM := mod_setCells B (pcs p) (j * 64) wr
  { h with bel := h.bel.trans (hM.below h.bel.size (fun i hi (e : i = B) => by have := h.hB; omega)), dsk := h.dsk.mod hM (fun i hi (e : i = B) => h.nb i hi e), eig := h.eig.put j hj p }
theorem act_at {w : World} {A : Option Addr} {l : List Dk.Act} (h : Kd.C ak w A l.length l) (i : Nat) (hi : i < l.length) : ∃ ad b o, A = some ad ∧ (ad.add (i * 67)).block = b ∧ (ad.add (i * 67)).off = o ∧ w.cell? (ad.add (i * 67)) = some (.int .u8 l[i].dO) ∧ w.cell? ⟨b, o + 1, none⟩ = some (.int .i64 l[i].at_) ∧
    w.rangeAt b (o + 2) (pcs l[i].p) ∧ b < w.heap.size := by
  obtain ⟨_, _, h3⟩ := h
  obtain ⟨ad, e, hx⟩ := h3 (by omega)
  obtain ⟨cs, h1, h2, h4⟩ := hx i l[i] (List.getElem?_eq_getElem hi)
  have h2' : cs = acs l[i] := h2
  subst h2'
  have hB : ∀ k, (ad.add k).block = ad.block := fun k => by unfold Addr.add; split <;> rfl
  have hO : ∀ k, (ad.add k).off = ad.off + k := fun k => by unfold Addr.add; split <;> simp_all
  have hA : ∀ k, 0 < k → ad.add (i * 67 + k) = ⟨(ad.add (i * 67)).block, (ad.add (i * 67)).off + k, none⟩ := fun k hk => by
    rw [hB, hO]; unfold Addr.add; rw [if_neg (by omega)]
    congr 1; omega
  have c0 := h4 0 _ rfl
  have c1 := h4 1 _ rfl
  rw [show i * ak.sz + 1 = i * 67 + 1 from rfl, hA 1 (by omega)] at c1
  refine ⟨ad, _, _, e, rfl, rfl, by simpa [ak] using c0, c1, fun j u hu => ?_, World.block_lt_of_cell? w ⟨(ad.add (i * 67)).block, (ad.add (i * 67)).off + 1, none⟩ c1⟩
  have hj : j < 64 := by have := (List.getElem?_eq_some_iff.1 hu).1; rw [pcs_length] at this; exact this
  have c := h4 (2 + j) u (by
    show (Value.int .u8 l[i].dO :: .int .i64 l[i].at_ :: (pcs l[i].p ++ [.int .u64 (l[i].mask : Int)]))[2 + j]? = some u
    rw [show 2 + j = j + 1 + 1 by omega, List.getElem?_cons_succ, List.getElem?_cons_succ, List.getElem?_append_left (by rw [pcs_length]; exact hj), hu])
  rw [show i * ak.sz + (2 + j) = i * 67 + (2 + j) from rfl, hA (2 + j) (by omega)] at c
  rw [← c]
  congr 2
  omega
theorem act_keep {w wr : World} {ad : Addr} {b o : Nat} {v : Value} {p : Pg} (hb : Below w.heap.size w wr) (h1 : w.cell? ad = some v) (h2 : w.rangeAt b o (pcs p)) (hl : b < w.heap.size) : wr.cell? ad = some v ∧ wr.rangeAt b o (pcs p) :=
  ⟨(hb.cell (World.block_lt_of_cell? w _ h1)).trans h1, fun j u hu => (hb.cell (World.block_lt_of_cell? w _ (h2 j u hu))).trans (h2 j u hu)⟩
theorem act_keep3 {w wr : World} {ad : Addr} {b o B j : Nat} {v : Value} {p : Pg} (hb : Below w.heap.size w wr) (h1 : w.cell? ad = some v) (h2 : w.rangeAt b o (pcs p)) (hl : b < w.heap.size) (h3 : wr.there B 0 512) (hj : j < 8) : wr.cell? ad = some v ∧ wr.rangeAt b o (pcs p) ∧ wr.there B (j * 64) (pcs p).length :=
  ⟨(act_keep hb h1 h2 hl).1, (act_keep hb h1 h2 hl).2, by rw [pcs_length]; exact there_part h3 j hj⟩
theorem exec_loadP {o : Oper} {a : Go.Act} {w : World} (b off : Nat) (p : Pg) (hr : w.rangeAt b off (pcs p)) {x : Operand} (ho : o.op = .load 30 x) (hx : a.eval x = .pointer (some ⟨b, off, none⟩)) : (execOp a.eval o).run Tryd.prog w = .ok (.value (pv p)) w := by
  unfold execOp
  simp only [ho, hx, run_loadAt_mid w b off 30 (pcs p) _ hr Tryd.underlying30 rfl (by rw [size30, pcs_length]), Sem.run_bind, Sem.run_pure, Result.andThen_ok]
  rfl
theorem exec_same {o : Oper} {a : Go.Act} {w : World} (p : Pg) {x y : Operand} (ho : o.op = .binOp .neq 30 x y 30) (hx : a.eval x = pv p) (hy : a.eval y = pv p) : (execOp a.eval o).run Tryd.prog w = .ok (.value (.bool false)) w := by
  have hs : (p.1 != p.1) = false := by simp
  unfold execOp
  simp only [ho, hx, hy, eqG .neq x y p p w, neqP p p w, hs, Sem.run_bind, Sem.run_pure, Result.andThen_ok]
theorem two_keep {w wr : World} {K B k : Nat} {P : Pg} {L : Nat → Pg} (hb : Below w.heap.size w wr) (h1 : w.heap[K]? = some (Obj.cells (pa P) 30 (0, 0))) (h2 : Eight wr B L) (hP : L k = P) (hk : k < 8) : wr.rangeAt K 0 (pcs P) ∧ wr.rangeAt B (k * 64) (pcs P) := by
  refine ⟨?_, by rw [← hP]; exact h2.1 k hk⟩
  have z := World.rangeAt_of_block (w := wr) ((hb.block K (Err.lt_of_block h1)).trans h1) 0 64
  have e : ((pa P).extract 0 (0 + 64)).toList = pcs P := by
    have hs := pa_size P
    rw [show 0 + 64 = (pa P).size by omega, Array.extract_size, pa_list]
  rw [e] at z; exact z
theorem Lst.len {W wr : World} {R M B n m : Nat} {v : Value} {d : Dsk} {L : Nat → Pg} (h : Lst W wr R M B v d L n) (hl : d.soft.length ≤ m) : Lst W wr R M B v d L m := { h with ln := hl }
theorem Lst.mods {W wr w2 : World} {R M B n m : Nat} {v v' : Value} {d d' : Dsk} {L : Nat → Pg} (h : Lst W wr R M B v d L n) (k : Mod (Ft R M v) wr w2) (hd : IsD w2 R M v' d') (hv : ∀ i, Ft R M v' i → Ft R M v i) (dn : d'.down = false) (sz : d'.size = 8) (bu : d'.budget = -1) (ln : d'.soft.length ≤ m) :
    Lst W w2 R M B v' d' L m :=
  { bel := h.bel.trans (k.below h.bel.size (fun i hi e => by have := h.fr i e; omega)), dsk := hd, fr := fun i hi => h.fr i (hv i hi), nb := fun i hi => h.nb i (hv i hi), hB := h.hB, dn := dn, sz := sz, bu := bu, ln := ln, eig := h.eig.mod k (fun e => h.nb _ e rfl) }
theorem ft_nil {R M : Nat} {v : Value} : ∀ i, Ft R M (.slice none 0 0) i → Ft R M v i := by
  rintro i (rfl | rfl | e)
  · exact .inl rfl
  · exact .inr (.inl rfl)
  · simp [Value.ownBlock] at e
end Go.Proofs.YtoanhafbofphgaaDoor.Dk
