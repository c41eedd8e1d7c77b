/- DiskLast, the walk. -/
import Derived.Test.YtoanhafbofphgaaDoorEight
import Derived.Test.YtoanhafbofphgaaDoorActs
set_option linter.unusedVariables false
set_option linter.unusedSimpArgs false
namespace Go.Proofs.YtoanhafbofphgaaDoor.RowDiskLast
open Go.RowKit Go.Proofs.YtoanhafbofphgaaDoorW.PrintWords Go.Proofs.YtoanhafbofphgaaDoorW.PrintLast Go.Proofs.YtoanhafbofphgaaDoorW.PrintMore Go.Proofs.YtoanhafbofphgaaDoor.Md Go.Proofs.YtoanhafbofphgaaDoor.Dk
open Go.Extern.Stop (cell)
open Go.Proofs.YtoanhafbofphgaaDoor.Err (Laid IsErr code_nil Chain at_some at_nil)
theorem many (A : Option Addr) (n c : Nat) (w : World) (hn : 80 < n) (hg : Hid (Laid w)) :
    Calls Tryd.prog 3 #[.slice A n c] w fun e w' => e = .returned (.bool true) ∧ Below w.heap.size w w' := by
  have c1 : decide ((n : Int) > 80) = true := decide_eq_true (by omega)
  have c1' : decide (n > 80) = true := decide_eq_true (by omega)
  have hw := Lib.hid (Below.refl w.heap.size w)
  go_enter Tryd.func3, Tryd.ntmps3
  go_wp2_with fail
  refine (awake_c w hg).mono ?_
  rintro e w1 ⟨rfl, hd⟩
  have HB1 := below_to hw (Nat.le_refl _) hd
  clear hd
  go_wp2_with fail
  refine (awake_c _ (Lib.hid (hg.out.on HB1.out))).mono ?_
  rintro e w2 ⟨rfl, hd⟩
  have HB2 := below_to HB1 (Nat.le_refl _) hd
  clear hd
  go_wp2_with fail
  go_ret
  exact ⟨rfl, HB2.out⟩
/-- the disk and the eight sectors beside it -/
structure Lst (W wr : World) (R M B : Nat) (v : Value) (d : Dsk) (L : Nat → Pg) (n : Nat) : Prop where
  bel : Below W.heap.size W wr
  dsk : IsD wr R M v d
  fr : Fr W.heap.size R M v
  nb : ∀ i, Ft R M v i → i ≠ B
  hB : W.heap.size ≤ B
  dn : d.down = false
  sz : d.size = 8
  bu : d.budget = -1
  ln : d.soft.length ≤ n
  eig : Eight wr B L
theorem Lst.on {W wr w2 : World} {R M B n : Nat} {v : Value} {d : Dsk} {L : Nat → Pg} (h : Lst W wr R M B v d L n) (k : Below wr.heap.size wr w2) : Lst W w2 R M B v d L n :=
  { h with bel := h.bel.trans (k.mono h.bel.size), dsk := h.dsk.on k, eig := h.eig.mod (Mod.of_below (S := fun _ => False) k (Nat.le_refl _)) (fun h => h) }
theorem Lst.flush {W wr w2 : World} {R M B n : Nat} {v : Value} {d : Dsk} {L : Nat → Pg} (h : Lst W wr R M B v d L n) (k : Mod (Ft R M v) wr w2) (hd : IsD w2 R M (.slice none 0 0) { d with firm := stl 18446744073709551615 d.firm d.soft 0, soft := [] }) :
    Lst W w2 R M B (.slice none 0 0) { d with firm := stl 18446744073709551615 d.firm d.soft 0, soft := [] } L n :=
  { bel := h.bel.trans (k.below h.bel.size (fun i hi e => by have := h.fr i e; omega)), dsk := hd, fr := h.fr.settle, nb := by
      rintro i (rfl | rfl | e)
      · exact h.nb _ (.inl rfl)
      · exact h.nb _ (.inr (.inl rfl))
      · simp [Value.ownBlock] at e
    hB := h.hB, dn := h.dn, sz := h.sz, bu := h.bu, ln := Nat.zero_le _, eig := h.eig.mod k (fun e => h.nb _ e rfl) }
theorem Lst.write {W wr w2 : World} {R M B n : Nat} {v v' : Value} {d : Dsk} {L : Nat → Pg} {j : Int} {p : Pg} (h : Lst W wr R M B v d L n) (k : Mod (Ft R M v) wr w2) (hd : IsD w2 R M v' { d with soft := d.soft ++ [(j, p)], budget := max (d.budget - 1) (-1) })
    (hv : v'.ownBlock = v.ownBlock ∨ ∃ b, v'.ownBlock = some b ∧ wr.heap.size ≤ b) : Lst W w2 R M B v' { d with soft := d.soft ++ [(j, p)], budget := -1 } L (n + 1) :=
  { bel := h.bel.trans (k.below h.bel.size (fun i hi e => by have := h.fr i e; omega)), dsk := by rw [h.bu] at hd; exact hd, fr := h.fr.write h.bel.size hv, nb := by
      rintro i (rfl | rfl | e)
      · exact h.nb _ (.inl rfl)
      · exact h.nb _ (.inr (.inl rfl))
      · rcases hv with g | ⟨b, g, hb⟩
        · exact h.nb _ (.inr (.inr (by rw [← g]; exact e)))
        · rw [g] at e; cases e
          have := h.eig.lt
          omega
    hB := h.hB, dn := h.dn, sz := h.sz, bu := rfl, ln := by show (d.soft ++ [(j, p)]).length ≤ n + 1; rw [List.length_append]; have := h.ln; simp; omega, eig := h.eig.mod k (fun e => h.nb _ e rfl) }
theorem Lst.put {W wr : World} {R M B n : Nat} {v : Value} {d : Dsk} {L : Nat → Pg} (h : Lst W wr R M B v d L n) (j : Nat) (hj : j < 8) (p : Pg) : Lst W (wr.setCells B (j * 64) (pcs p)) R M B v d (upN L j p) n :=
  have hM := mod_setCells B (pcs p) (j * 64) wr
  { h with bel := h.bel.trans (hM.below h.bel.size (fun i hi (e : i = B) => by have := h.hB; omega)), dsk := h.dsk.mod hM (fun i hi (e : i = B) => h.nb i hi e), eig := h.eig.put j hj p }
theorem act_at {w : World} {A : Option Addr} {l : List Dk.Act} (h : Kd.C ak w A l.length l) (i : Nat) (hi : i < l.length) : ∃ ad b o, A = some ad ∧ (ad.add (i * 67)).block = b ∧ (ad.add (i * 67)).off = o ∧ w.cell? (ad.add (i * 67)) = some (.int .u8 l[i].dO) ∧ w.cell? ⟨b, o + 1, none⟩ = some (.int .i64 l[i].at_) ∧
    w.rangeAt b (o + 2) (pcs l[i].p) ∧ b < w.heap.size := by
  obtain ⟨_, _, h3⟩ := h
  obtain ⟨ad, e, hx⟩ := h3 (by omega)
  obtain ⟨cs, h1, h2, h4⟩ := hx i l[i] (List.getElem?_eq_getElem hi)
  have h2' : cs = acs l[i] := h2
  subst h2'
  have hB : ∀ k, (ad.add k).block = ad.block := fun k => by unfold Addr.add; split <;> rfl
  have hO : ∀ k, (ad.add k).off = ad.off + k := fun k => by unfold Addr.add; split <;> simp_all
  have hA : ∀ k, 0 < k → ad.add (i * 67 + k) = ⟨(ad.add (i * 67)).block, (ad.add (i * 67)).off + k, none⟩ := fun k hk => by
    rw [hB, hO]; unfold Addr.add; rw [if_neg (by omega)]
    congr 1; omega
  have c0 := h4 0 _ rfl
  have c1 := h4 1 _ rfl
  rw [show i * ak.sz + 1 = i * 67 + 1 from rfl, hA 1 (by omega)] at c1
  refine ⟨ad, _, _, e, rfl, rfl, by simpa [ak] using c0, c1, fun j u hu => ?_, World.block_lt_of_cell? w ⟨(ad.add (i * 67)).block, (ad.add (i * 67)).off + 1, none⟩ c1⟩
  have hj : j < 64 := by have := (List.getElem?_eq_some_iff.1 hu).1; rw [pcs_length] at this; exact this
  have c := h4 (2 + j) u (by
    show (Value.int .u8 l[i].dO :: .int .i64 l[i].at_ :: (pcs l[i].p ++ [.int .u64 (l[i].mask : Int)]))[2 + j]? = some u
    rw [show 2 + j = j + 1 + 1 by omega, List.getElem?_cons_succ, List.getElem?_cons_succ, List.getElem?_append_left (by rw [pcs_length]; exact hj), hu])
  rw [show i * ak.sz + (2 + j) = i * 67 + (2 + j) from rfl, hA (2 + j) (by omega)] at c
  rw [← c]
  congr 2
  omega
theorem act_keep {w wr : World} {ad : Addr} {b o : Nat} {v : Value} {p : Pg} (hb : Below w.heap.size w wr) (h1 : w.cell? ad = some v) (h2 : w.rangeAt b o (pcs p)) (hl : b < w.heap.size) : wr.cell? ad = some v ∧ wr.rangeAt b o (pcs p) :=
  ⟨(hb.cell (World.block_lt_of_cell? w _ h1)).trans h1, fun j u hu => (hb.cell (World.block_lt_of_cell? w _ (h2 j u hu))).trans (h2 j u hu)⟩
theorem act_keep3 {w wr : World} {ad : Addr} {b o B j : Nat} {v : Value} {p : Pg} (hb : Below w.heap.size w wr) (h1 : w.cell? ad = some v) (h2 : w.rangeAt b o (pcs p)) (hl : b < w.heap.size) (h3 : wr.there B 0 512) (hj : j < 8) : wr.cell? ad = some v ∧ wr.rangeAt b o (pcs p) ∧ wr.there B (j * 64) (pcs p).length :=
  ⟨(act_keep hb h1 h2 hl).1, (act_keep hb h1 h2 hl).2, by rw [pcs_length]; exact there_part h3 j hj⟩
theorem exec_loadP {o : Oper} {a : Act} {w : World} (b off : Nat) (p : Pg) (hr : w.rangeAt b off (pcs p)) {x : Operand} (ho : o.op = .load 30 x) (hx : a.eval x = .pointer (some ⟨b, off, none⟩)) : (execOp a.eval o).run Tryd.prog w = .ok (.value (pv p)) w := by
  unfold execOp
  simp only [ho, hx, run_loadAt_mid w b off 30 (pcs p) _ hr Tryd.underlying30 rfl (by rw [size30, pcs_length]), Sem.run_bind, Sem.run_pure, Result.andThen_ok]
  rfl
theorem exec_same {o : Oper} {a : Act} {w : World} (p : Pg) {x y : Operand} (ho : o.op = .binOp .neq 30 x y 30) (hx : a.eval x = pv p) (hy : a.eval y = pv p) : (execOp a.eval o).run Tryd.prog w = .ok (.value (.bool false)) w := by
  have hs : (p.1 != p.1) = false := by simp
  unfold execOp
  simp only [ho, hx, hy, eqG .neq x y p p w, neqP p p w, hs, Sem.run_bind, Sem.run_pure, Result.andThen_ok]
theorem two_keep {w wr : World} {K B k : Nat} {P : Pg} {L : Nat → Pg} (hb : Below w.heap.size w wr) (h1 : w.heap[K]? = some (Obj.cells (pa P) 30 (0, 0))) (h2 : Eight wr B L) (hP : L k = P) (hk : k < 8) : wr.rangeAt K 0 (pcs P) ∧ wr.rangeAt B (k * 64) (pcs P) := by
  refine ⟨?_, by rw [← hP]; exact h2.1 k hk⟩
  have z := World.rangeAt_of_block (w := wr) ((hb.block K (Err.lt_of_block h1)).trans h1) 0 64
  have e : ((pa P).extract 0 (0 + 64)).toList = pcs P := by
    have hs := pa_size P
    rw [show 0 + 64 = (pa P).size by omega, Array.extract_size, pa_list]
  rw [e] at z; exact z
set_option maxHeartbeats 8000000 in
set_option maxRecDepth 100000 in
theorem few (A : Option Addr) (n c : Nat) (l : List Dk.Act) (w : World) (hn : l.length = n) (h1 : n ≤ 80) (hc : n ≤ c) (hA : Hid (Kd.C ak w A l.length l)) (hw0 : Hid (∀ x ∈ l, (Lit.int .u8 x.dO).wf = true ∧ (Lit.int .i64 x.at_).wf = true ∧ x.mask < 2 ^ 64)) (hg : Hid (Laid w)) :
    Calls Tryd.prog 3 #[.slice A n c] w fun e w' => e = .returned (.bool true) ∧ Below w.heap.size w w' := by
  have c1 : decide ((n : Int) > 80) = false := decide_eq_false (by omega)
  have c1' : decide (n > 80) = false := decide_eq_false (by omega)
  have HNn := Lib.hid hn
  clear hn
  have hw := Lib.hid (Below.refl w.heap.size w)
  go_enter Tryd.func3, Tryd.ntmps3
  go_wp2_with fail
  refine (awake_c w hg).mono ?_
  rintro e w1 ⟨rfl, hd⟩
  have HB1 := below_to hw (Nat.le_refl _) hd
  clear hd
  go_wp2_with fail
  refine (new_c w1 8 (by omega) (by omega)).mono ?_
  rintro e w2 ⟨R, M, hR, hM, rfl, hb, hd⟩
  have hRw : w.heap.size ≤ R := Nat.le_trans HB1.out.size hR
  have hMw : w.heap.size ≤ M := Nat.le_trans HB1.out.size hM
  have HB2 := below_to HB1 (Nat.le_refl _) hb
  have HD2 := Lib.hid hd
  clear hb hd hR hM
  go_wp2_with (first | (refine wl_alloc8 rfl rfl ?_))
  have hb3 : Below w2.heap.size w2 (w2.alloc (Obj.cells e512 31 (0, 0))) := (Below.refl _ _).alloc (Nat.le_refl _) _
  have hft := HD2.out.ft_lt
  have HL3 := Lib.hid (show Lst w (w2.alloc (Obj.cells e512 31 (0, 0))) R M w2.heap.size (.slice none 0 0) ⟨8, fun _ => pz, [], false, -1⟩ (fun _ => pz) 0 from
    { bel := HB2.out.trans (hb3.mono HB2.out.size), dsk := HD2.out.on hb3, fr := Fr.nil hRw hMw, nb := fun i hi e => by have := hft i hi; omega, hB := HB2.out.size, dn := rfl, sz := rfl, bu := rfl, ln := Nat.le_refl _, eig := Eight.new w2 })
  obtain ⟨B, hB⟩ : ∃ B, w2.heap.size = B := ⟨_, rfl⟩
  obtain ⟨w3, hw3⟩ : ∃ w3, w2.alloc (Obj.cells e512 31 (0, 0)) = w3 := ⟨_, rfl⟩
  rw [hw3, hB] at HL3
  rw [hw3]
  simp only [hB]
  clear hb3 hft hw3 hB HD2 HB2 HB1 hRw hMw hw
  go_loopg [6] n (fun kq v0 wr => ∃ (i : Nat) (v : Value) (d : Dsk) (L : Nat → Pg), v0 = .int .i64 (i : Int) ∧ kq + i = n ∧ Hid (Lst w wr R M B v d L i) ∧ Hid (∀ k : Nat, k < 8 → rd d (k : Int) = L k))
  case atStart => exact ⟨0, _, _, _, rfl, by omega, HL3, Lib.hid (fun k hk => rfl)⟩
  case round =>
    clear HL3
    obtain ⟨i, v, d, L, rfl, hk, HL, HEq⟩ := hrel
    cases gk with
    | zero =>
      have hin : i = n := by omega
      have c5 : decide ((i : Int) < (n : Int)) = false := decide_eq_false (by omega)
      have c5' : decide (i < n) = false := decide_eq_false (by omega)
      clear hin hk
      go_wp2_with fail
      refine (code_nil _).mono ?_
      rintro e w4 ⟨rfl, hd⟩
      have HB4 := Lib.hid (HL.out.on hd).bel
      clear hd
      go_wp2_with fail
      go_ret
      exact ⟨rfl, HB4.out⟩
    | succ k1 =>
      have hin : i < n := by omega
      have hil : i < l.length := by have := HNn.out; omega
      have c5 : decide ((i : Int) < (n : Int)) = true := decide_eq_true (by omega)
      have c5' : decide (i < n) = true := decide_eq_true (by omega)
      have q5 : IntKind.i64.wrap ((i : Int) + 1) = (i : Int) + 1 := IntWalk.i64_in _ (by omega)
      have p1 : (0 ≤ (i : Int)) = True := eq_true (by omega)
      have p2 : ((i : Int) < (n : Int)) = True := eq_true (by omega)
      obtain ⟨ad, b, o, rfl, hab, hao, x0, x1, x2, hbl⟩ := act_at hA.out i hil
      have hwf := hw0.out l[i] (List.getElem_mem _)
      obtain ⟨x, hx⟩ : ∃ x, l[i] = x := ⟨_, rfl⟩
      rw [hx] at x0 x1 x2 hwf
      obtain ⟨j, hj8, hj⟩ := and7 x.at_
      have hbx := HL.out.bel
      have X0 := Lib.hid x0
      have X1 := Lib.hid x1
      have X2 := Lib.hid x2
      have y0 := (hbx.cell (World.block_lt_of_cell? w _ x0)).trans x0
      clear x0 x1 x2 hx hbx
      have p3 : (0 ≤ (j : Int)) = True := eq_true (by omega)
      have p4 : ((j : Int) < 8) = True := eq_true (by omega)
      have hu30 := Tryd.underlying30
      have hi30 : (Tryd.prog.info? 30).map (·.size) = some (pcs x.p).length := by rw [pcs_length]; exact size30
      cases hdo : (x.dO.tmod 5 == 4) with
      | false =>
        go_wp2_with fail
        have HLd := Lib.hid (HL.out.on (Below.refl _ _).drew)
        have hS0 := act_keep HLd.out.bel X1.out X2.out hbl
        go_region_held3 (fun w' => w'.cell? ⟨b, o + 1, none⟩ = some (.int .i64 x.at_) ∧ w'.rangeAt b (o + 2) (pcs x.p))
          (first | with_reducible exact hS0 | with_reducible assumption)
          (first
            | (go_at_call 12
               refine (write_ok wr.drew R M v d (j : Int) x.p (Lib.hid HLd.out.dsk) (Lib.hid HLd.out.dn) (by omega) (by rw [HLd.out.sz]; omega) (by rw [HLd.out.bu]; omega) (by rw [HLd.out.bu]; omega) (by rw [HLd.out.bu]; omega) (by have := HLd.out.ln; omega)).mono ?_
               rintro e w5 ⟨rfl, v5, hm5, hd5, hv5⟩
               have HL5 := Lib.hid (HLd.out.write hm5 hd5 hv5)
               have hS5 := act_keep HL5.out.bel X1.out X2.out hbl
               clear hm5 hd5 hv5)
            | (go_at_call 11
               refine (code_nil _).mono ?_
               rintro e w6 ⟨rfl, hd6⟩
               have HL6 := Lib.hid (HL5.out.on hd6)
               have hS6 := act_keep HL6.out.bel X1.out X2.out hbl
               clear hd6))
        have HEq6 := Lib.hid (show ∀ k : Nat, k < 8 → rd { d with soft := d.soft ++ [((j : Int), x.p)], budget := -1 } (k : Int) = upN L j x.p k from fun k hk => by
          rw [rd_snoc, HEq.out k hk]; unfold upN
          by_cases e : k = j
          · rw [if_pos e, if_pos (by omega)]
          · rw [if_neg e, if_neg (by omega)])
        obtain ⟨d6, hd6⟩ : ∃ d6 : Dsk, { d with soft := d.soft ++ [((j : Int), x.p)], budget := -1 } = d6 := ⟨_, rfl⟩
        rw [hd6] at HL6 HEq6
        clear hS0 hS5 hS6 HLd HL5 HL HEq hd6
        go_wp2_with fail
        have HL7 := Lib.hid (HL6.out.on (Below.refl _ _).drew)
        have HL8 := Lib.hid (HL7.out.put j hj8 x.p)
        have hS7 := act_keep3 (p := x.p) (j := j) HL7.out.bel X1.out X2.out hbl HL7.out.eig.2 hj8
        have hS8 := act_keep3 (p := x.p) (j := j) HL8.out.bel X1.out X2.out hbl HL8.out.eig.2 hj8
        have h1p : ∀ v ∈ pcs x.p, v.oneCell' = true := pcs_one x.p
        go_region_held3 (fun w' => w'.cell? ⟨b, o + 1, none⟩ = some (.int .i64 x.at_) ∧ w'.rangeAt b (o + 2) (pcs x.p) ∧ w'.there B (j * 64) (pcs x.p).length)
          (first | with_reducible exact hS7 | with_reducible exact hS8)
          (fail)
        clear hS7 hS8 HL6 HL7 h1p
        obtain ⟨L8, hL8⟩ : ∃ L8, upN L j x.p = L8 := ⟨_, rfl⟩
        rw [hL8] at HL8 HEq6
        clear hL8
        go_wp2_with fail
        go_loopg [7] 8 (fun kq v0 wr => ∃ (k : Nat), v0 = .int .i64 (k : Int) ∧ kq + k = 8 ∧ Hid (Lst w wr R M B v5 d6 L8 (i + 1)))
        case atStart => exact ⟨0, rfl, by omega, HL8⟩
        case round =>
          clear HL8
          obtain ⟨k, rfl, hk8, HL9⟩ := hrel
          cases gk with
          | zero =>
            have hin : k = 8 := by omega
            have c6 : decide ((k : Int) < 8) = false := decide_eq_false (by omega)
            have c6' : decide (k < 8) = false := decide_eq_false (by omega)
            clear hin hk8
            go_wp2_with fail
            go_roundg k1
            case measure => exact Nat.lt_succ_self _
            case rel => exact ⟨i + 1, v5, d6, L8, by simp, by omega, HL9, HEq6⟩
          | succ k2 =>
            have hk8' : k < 8 := by omega
            have c6 : decide ((k : Int) < 8) = true := decide_eq_true (by omega)
            have c6' : decide (k < 8) = true := decide_eq_true hk8'
            have q6 : IntKind.i64.wrap ((k : Int) + 1) = (k : Int) + 1 := IntWalk.i64_in _ (by omega)
            have p5 : (0 ≤ (k : Int)) = True := eq_true (by omega)
            have p6 : ((k : Int) < 8) = True := eq_true (by omega)
            obtain ⟨P, hP⟩ : ∃ P, L8 k = P := ⟨_, rfl⟩
            have hrd : rd d6 (k : Int) = P := by rw [HEq6.out k hk8', hP]
            have HPe := Lib.hid hP
            clear hP
            go_wp2_with fail
            refine (read_ok wr R M v5 d6 (k : Int) (Lib.hid HL9.out.dsk) (mayN_zero HL9.out.dn (by omega) (by rw [HL9.out.sz]; omega)) (by have := HL9.out.ln; omega)).mono ?_
            rintro e w10 ⟨rfl, hd10⟩
            rw [hrd]
            have HL10 := Lib.hid (HL9.out.on hd10)
            clear hd10 hrd HL9
            go_wp2_with (first | (refine wl_alloc30 rfl rfl ?_) | (refine wl_store30n pz P rfl _ _ rfl rfl rfl ?_))
            have hb11 : Below w10.heap.size w10 (w10.alloc (Obj.cells (pa P) 30 (0, 0))) := (Below.refl _ _).alloc (Nat.le_refl _) _
            have HL11 := Lib.hid (HL10.out.on hb11)
            have HK11 := Lib.hid (heap_alloc_last w10 (Obj.cells (pa P) 30 (0, 0)))
            obtain ⟨K, hK⟩ : ∃ K, w10.heap.size = K := ⟨_, rfl⟩
            obtain ⟨w11, hw11⟩ : ∃ w11, w10.alloc (Obj.cells (pa P) 30 (0, 0)) = w11 := ⟨_, rfl⟩
            rw [hw11] at HL11 HK11
            rw [hK] at HK11
            rw [hw11]
            simp only [hK]
            clear hb11 hw11 hK HL10
            have HL12 := Lib.hid (HL11.out.on (Below.refl _ _).drew)
            have hS12 := two_keep (P := P) (Below.refl w11.heap.size w11).drew HK11.out HL12.out.eig HPe.out hk8'
            refine start_ (n := 10) (S := fun w' => w'.rangeAt K 0 (pcs P) ∧ w'.rangeAt B (k * 64) (pcs P)) (ds := []) #[false, false, false, false, false, false, false, false, false, false] (by kernel_rfl) rfl rfl ⟨hS12.1, hS12.2⟩ (fun hHeld => ?_)
            refine pure_ (i := 0) (N := some 74) (v := ?_) (a' := ?_) #[true, false, false, false, false, false, false, false, false, false] rfl rfl (by kernel_rfl) (fun _ _ _ h => h) (Or.inl ⟨by rfl, ?_⟩) ?_ ?_
            rotate_left
            · intro w'
              go_simp
              with_reducible rfl
            rotate_left
            · simp only [Act.put, List.setIfInBounds_toArray, List.set_cons_zero, List.set_cons_succ, i64_w, i32_w]
              rfl
            refine one_ (i := 1) (N := some 75) #[true, true, false, false, false, false, false, false, false, false] rfl rfl (by kernel_rfl) (by decide) (fun K hK => ?_)
            refine goes_ Tryd.func11 (by kernel_rfl) rfl #[.nilIface] (by rfl) rfl rfl (by simp only [List.map_toArray, List.map_cons, List.map_nil]; rfl) ?_
            with_reducible refine (code_nil _).mono ?_
            rintro e w13 ⟨rfl, hd13⟩
            have HL13 := Lib.hid (HL12.out.on hd13)
            have hS13 := two_keep (P := P) (((Below.refl w11.heap.size w11).drew).trans hd13) HK11.out HL13.out.eig HPe.out hk8'
            clear hd13
            refine ⟨_, rfl, ?_⟩
            refine hK.out _ _ ⟨hS13.1, hS13.2⟩ (fun hHeld => ?_)
            clear hK K
            refine norm_ (a' := ?_) ?_ ?_
            rotate_left
            · show Act.put _ (some 75) _ = _
              simp only [Act.put, List.setIfInBounds_toArray, List.set_cons_zero, List.set_cons_succ, i64_w, i32_w]
              rfl
            refine pure_ (i := 2) (N := some 76) (v := ?_) (a' := ?_) #[true, true, true, false, false, false, false, false, false, false] rfl rfl (by kernel_rfl) (fun _ _ _ h => h) (Or.inl ⟨by rfl, ?_⟩) ?_ ?_
            rotate_left
            · intro w'
              go_simp
              with_reducible rfl
            rotate_left
            · simp only [Act.put, List.setIfInBounds_toArray, List.set_cons_zero, List.set_cons_succ, i64_w, i32_w]
              rfl
            refine pure_ (i := 3) (N := some 77) (v := ?_) (a' := ?_) #[true, true, true, true, false, false, false, false, false, false] rfl rfl (by kernel_rfl) (fun _ _ _ h => h) (Or.inl ⟨by rfl, ?_⟩) ?_ ?_
            rotate_left
            · intro w'
              go_simp
              with_reducible rfl
            rotate_left
            · simp only [Act.put, List.setIfInBounds_toArray, List.set_cons_zero, List.set_cons_succ, i64_w, i32_w]
              rfl
            refine pure_ (i := 5) (N := some 79) (v := ?_) (a' := ?_) #[true, true, true, true, false, true, false, false, false, false] rfl rfl (by kernel_rfl) (fun _ _ _ h => h) (Or.inl ⟨by rfl, ?_⟩) ?_ ?_
            rotate_left
            · intro w'
              go_simp
              with_reducible rfl
            rotate_left
            · simp only [Act.put, List.setIfInBounds_toArray, List.set_cons_zero, List.set_cons_succ, i64_w, i32_w]
              rfl
            refine pure_ (i := 6) (N := some 80) (v := ?_) (a' := ?_) #[true, true, true, true, false, true, true, false, false, false] rfl rfl (by kernel_rfl) (fun _ _ _ h => h) (Or.inl ⟨by rfl, ?_⟩) ?_ ?_
            rotate_left
            · intro w'
              go_simp
              with_reducible rfl
            rotate_left
            · simp only [Act.put, List.setIfInBounds_toArray, List.set_cons_zero, List.set_cons_succ, i64_w, i32_w]
              rfl
            refine take_ (i := 4) (N := some 78) (v := ?_) (a' := ?_) #[true, true, true, true, true, true, true, false, false, false] rfl rfl (by kernel_rfl) (fun _ _ _ h => h) (Or.inl ⟨by rfl, ?_⟩) hHeld ?_ ?_
            rotate_left
            · rintro w' ⟨s0, s1⟩
              refine (exec_loadP (x := .tmp 8) K 0 P s0 ?_ ?_).trans ?_
              · rfl
              · rfl
              · with_reducible rfl
            rotate_left
            · simp only [Act.put, List.setIfInBounds_toArray, List.set_cons_zero, List.set_cons_succ, i64_w, i32_w]
              rfl
            refine take_ (i := 7) (N := some 81) (v := ?_) (a' := ?_) #[true, true, true, true, true, true, true, true, false, false] rfl rfl (by kernel_rfl) (fun _ _ _ h => h) (Or.inl ⟨by rfl, ?_⟩) hHeld ?_ ?_
            rotate_left
            · rintro w' ⟨s0, s1⟩
              refine (exec_loadP (x := .tmp 80) B (k * 64) P s1 ?_ ?_).trans ?_
              · rfl
              · rfl
              · with_reducible rfl
            rotate_left
            · simp only [Act.put, List.setIfInBounds_toArray, List.set_cons_zero, List.set_cons_succ, i64_w, i32_w]
              rfl
            refine pure_ (i := 8) (N := some 82) (v := ?_) (a' := ?_) #[true, true, true, true, true, true, true, true, true, false] rfl rfl (by kernel_rfl) (fun _ _ _ h => h) (Or.inl ⟨by rfl, ?_⟩) ?_ ?_
            rotate_left
            · intro w'
              refine (exec_same (x := .tmp 78) (y := .tmp 81) P ?_ ?_ ?_).trans ?_
              · rfl
              · rfl
              · rfl
              · with_reducible rfl
            rotate_left
            · simp only [Act.put, List.setIfInBounds_toArray, List.set_cons_zero, List.set_cons_succ, i64_w, i32_w]
              rfl
            refine pure_ (i := 9) (N := some 83) (v := ?_) (a' := ?_) #[true, true, true, true, true, true, true, true, true, true] rfl rfl (by kernel_rfl) (fun _ _ _ h => h) (Or.inl ⟨by rfl, ?_⟩) ?_ ?_
            rotate_left
            · intro w'
              go_simp
              with_reducible rfl
            rotate_left
            · simp only [Act.put, List.setIfInBounds_toArray, List.set_cons_zero, List.set_cons_succ, i64_w, i32_w]
              rfl
            refine done_ (by kernel_rfl) ?_
            clear HL11
            go_wp2_with fail
            go_roundg k2
            case measure => exact Nat.lt_succ_self _
            case rel => exact ⟨k + 1, by simp, by omega, HL13⟩
      | true =>
        go_wp2_with fail
        refine (flush_ok wr R M v d (Lib.hid HL.out.dsk) (mayN_zero HL.out.dn (by omega) (by rw [HL.out.sz]; omega)) (by have := HL.out.ln; omega)).mono ?_
        rintro e w4 ⟨rfl, hm4, hd4⟩
        have HLf := Lib.hid (HL.out.flush hm4 hd4)
        have HEf := Lib.hid (show ∀ k : Nat, k < 8 → rd { d with firm := stl 18446744073709551615 d.firm d.soft 0, soft := [] } (k : Int) = L k from fun k hk => by
          rw [← HEq.out k hk, rd_firm _ _ rfl]
          exact stl_ones _ _ _ _)
        obtain ⟨df, hdf⟩ : ∃ df : Dsk, { d with firm := stl 18446744073709551615 d.firm d.soft 0, soft := [] } = df := ⟨_, rfl⟩
        rw [hdf] at HLf HEf
        clear hm4 hd4 hdf HL HEq
        go_wp2_with fail
        have HLd := Lib.hid (HLf.out.on (Below.refl _ _).drew)
        have hS0 := act_keep HLd.out.bel X1.out X2.out hbl
        go_region_held3 (fun w' => w'.cell? ⟨b, o + 1, none⟩ = some (.int .i64 x.at_) ∧ w'.rangeAt b (o + 2) (pcs x.p))
          (first | with_reducible exact hS0 | with_reducible assumption)
          (first
            | (go_at_call 12
               refine (write_ok w4.drew R M (.slice none 0 0) df (j : Int) x.p (Lib.hid HLd.out.dsk) (Lib.hid HLd.out.dn) (by omega) (by rw [HLd.out.sz]; omega) (by rw [HLd.out.bu]; omega) (by rw [HLd.out.bu]; omega) (by rw [HLd.out.bu]; omega) (by have := HLd.out.ln; omega)).mono ?_
               rintro e w5 ⟨rfl, v5, hm5, hd5, hv5⟩
               have HL5 := Lib.hid (HLd.out.write hm5 hd5 hv5)
               have hS5 := act_keep HL5.out.bel X1.out X2.out hbl
               clear hm5 hd5 hv5)
            | (go_at_call 11
               refine (code_nil _).mono ?_
               rintro e w6 ⟨rfl, hd6⟩
               have HL6 := Lib.hid (HL5.out.on hd6)
               have hS6 := act_keep HL6.out.bel X1.out X2.out hbl
               clear hd6))
        have HEq6 := Lib.hid (show ∀ k : Nat, k < 8 → rd { df with soft := df.soft ++ [((j : Int), x.p)], budget := -1 } (k : Int) = upN L j x.p k from fun k hk => by
          rw [rd_snoc, HEf.out k hk]; unfold upN
          by_cases e : k = j
          · rw [if_pos e, if_pos (by omega)]
          · rw [if_neg e, if_neg (by omega)])
        obtain ⟨d6, hd6⟩ : ∃ d6 : Dsk, { df with soft := df.soft ++ [((j : Int), x.p)], budget := -1 } = d6 := ⟨_, rfl⟩
        rw [hd6] at HL6 HEq6
        clear hS0 hS5 hS6 HLd HL5 HLf HEf hd6
        go_wp2_with fail
        have HL7 := Lib.hid (HL6.out.on (Below.refl _ _).drew)
        have HL8 := Lib.hid (HL7.out.put j hj8 x.p)
        have hS7 := act_keep3 (p := x.p) (j := j) HL7.out.bel X1.out X2.out hbl HL7.out.eig.2 hj8
        have hS8 := act_keep3 (p := x.p) (j := j) HL8.out.bel X1.out X2.out hbl HL8.out.eig.2 hj8
        have h1p : ∀ v ∈ pcs x.p, v.oneCell' = true := pcs_one x.p
        go_region_held3 (fun w' => w'.cell? ⟨b, o + 1, none⟩ = some (.int .i64 x.at_) ∧ w'.rangeAt b (o + 2) (pcs x.p) ∧ w'.there B (j * 64) (pcs x.p).length)
          (first | with_reducible exact hS7 | with_reducible exact hS8)
          (fail)
        clear hS7 hS8 HL6 HL7 h1p
        obtain ⟨L8, hL8⟩ : ∃ L8, upN L j x.p = L8 := ⟨_, rfl⟩
        rw [hL8] at HL8 HEq6
        clear hL8
        go_wp2_with fail
        go_loopg [7] 8 (fun kq v0 wr => ∃ (k : Nat), v0 = .int .i64 (k : Int) ∧ kq + k = 8 ∧ Hid (Lst w wr R M B v5 d6 L8 (i + 1)))
        case atStart => exact ⟨0, rfl, by omega, HL8⟩
        case round =>
          clear HL8
          obtain ⟨k, rfl, hk8, HL9⟩ := hrel
          cases gk with
          | zero =>
            have hin : k = 8 := by omega
            have c6 : decide ((k : Int) < 8) = false := decide_eq_false (by omega)
            have c6' : decide (k < 8) = false := decide_eq_false (by omega)
            clear hin hk8
            go_wp2_with fail
            go_roundg k1
            case measure => exact Nat.lt_succ_self _
            case rel => exact ⟨i + 1, v5, d6, L8, by simp, by omega, HL9, HEq6⟩
          | succ k2 =>
            have hk8' : k < 8 := by omega
            have c6 : decide ((k : Int) < 8) = true := decide_eq_true (by omega)
            have c6' : decide (k < 8) = true := decide_eq_true hk8'
            have q6 : IntKind.i64.wrap ((k : Int) + 1) = (k : Int) + 1 := IntWalk.i64_in _ (by omega)
            have p5 : (0 ≤ (k : Int)) = True := eq_true (by omega)
            have p6 : ((k : Int) < 8) = True := eq_true (by omega)
            obtain ⟨P, hP⟩ : ∃ P, L8 k = P := ⟨_, rfl⟩
            have hrd : rd d6 (k : Int) = P := by rw [HEq6.out k hk8', hP]
            have HPe := Lib.hid hP
            clear hP
            go_wp2_with fail
            refine (read_ok wr R M v5 d6 (k : Int) (Lib.hid HL9.out.dsk) (mayN_zero HL9.out.dn (by omega) (by rw [HL9.out.sz]; omega)) (by have := HL9.out.ln; omega)).mono ?_
            rintro e w10 ⟨rfl, hd10⟩
            rw [hrd]
            have HL10 := Lib.hid (HL9.out.on hd10)
            clear hd10 hrd HL9
            go_wp2_with (first | (refine wl_alloc30 rfl rfl ?_) | (refine wl_store30n pz P rfl _ _ rfl rfl rfl ?_))
            have hb11 : Below w10.heap.size w10 (w10.alloc (Obj.cells (pa P) 30 (0, 0))) := (Below.refl _ _).alloc (Nat.le_refl _) _
            have HL11 := Lib.hid (HL10.out.on hb11)
            have HK11 := Lib.hid (heap_alloc_last w10 (Obj.cells (pa P) 30 (0, 0)))
            obtain ⟨K, hK⟩ : ∃ K, w10.heap.size = K := ⟨_, rfl⟩
            obtain ⟨w11, hw11⟩ : ∃ w11, w10.alloc (Obj.cells (pa P) 30 (0, 0)) = w11 := ⟨_, rfl⟩
            rw [hw11] at HL11 HK11
            rw [hK] at HK11
            rw [hw11]
            simp only [hK]
            clear hb11 hw11 hK HL10
            have HL12 := Lib.hid (HL11.out.on (Below.refl _ _).drew)
            have hS12 := two_keep (P := P) (Below.refl w11.heap.size w11).drew HK11.out HL12.out.eig HPe.out hk8'
            refine start_ (n := 10) (S := fun w' => w'.rangeAt K 0 (pcs P) ∧ w'.rangeAt B (k * 64) (pcs P)) (ds := []) #[false, false, false, false, false, false, false, false, false, false] (by kernel_rfl) rfl rfl ⟨hS12.1, hS12.2⟩ (fun hHeld => ?_)
            refine pure_ (i := 0) (N := some 74) (v := ?_) (a' := ?_) #[true, false, false, false, false, false, false, false, false, false] rfl rfl (by kernel_rfl) (fun _ _ _ h => h) (Or.inl ⟨by rfl, ?_⟩) ?_ ?_
            rotate_left
            · intro w'
              go_simp
              with_reducible rfl
            rotate_left
            · simp only [Act.put, List.setIfInBounds_toArray, List.set_cons_zero, List.set_cons_succ, i64_w, i32_w]
              rfl
            refine one_ (i := 1) (N := some 75) #[true, true, false, false, false, false, false, false, false, false] rfl rfl (by kernel_rfl) (by decide) (fun K hK => ?_)
            refine goes_ Tryd.func11 (by kernel_rfl) rfl #[.nilIface] (by rfl) rfl rfl (by simp only [List.map_toArray, List.map_cons, List.map_nil]; rfl) ?_
            with_reducible refine (code_nil _).mono ?_
            rintro e w13 ⟨rfl, hd13⟩
            have HL13 := Lib.hid (HL12.out.on hd13)
            have hS13 := two_keep (P := P) (((Below.refl w11.heap.size w11).drew).trans hd13) HK11.out HL13.out.eig HPe.out hk8'
            clear hd13
            refine ⟨_, rfl, ?_⟩
            refine hK.out _ _ ⟨hS13.1, hS13.2⟩ (fun hHeld => ?_)
            clear hK K
            refine norm_ (a' := ?_) ?_ ?_
            rotate_left
            · show Act.put _ (some 75) _ = _
              simp only [Act.put, List.setIfInBounds_toArray, List.set_cons_zero, List.set_cons_succ, i64_w, i32_w]
              rfl
            refine pure_ (i := 2) (N := some 76) (v := ?_) (a' := ?_) #[true, true, true, false, false, false, false, false, false, false] rfl rfl (by kernel_rfl) (fun _ _ _ h => h) (Or.inl ⟨by rfl, ?_⟩) ?_ ?_
            rotate_left
            · intro w'
              go_simp
              with_reducible rfl
            rotate_left
            · simp only [Act.put, List.setIfInBounds_toArray, List.set_cons_zero, List.set_cons_succ, i64_w, i32_w]
              rfl
            refine pure_ (i := 3) (N := some 77) (v := ?_) (a' := ?_) #[true, true, true, true, false, false, false, false, false, false] rfl rfl (by kernel_rfl) (fun _ _ _ h => h) (Or.inl ⟨by rfl, ?_⟩) ?_ ?_
            rotate_left
            · intro w'
              go_simp
              with_reducible rfl
            rotate_left
            · simp only [Act.put, List.setIfInBounds_toArray, List.set_cons_zero, List.set_cons_succ, i64_w, i32_w]
              rfl
            refine pure_ (i := 5) (N := some 79) (v := ?_) (a' := ?_) #[true, true, true, true, false, true, false, false, false, false] rfl rfl (by kernel_rfl) (fun _ _ _ h => h) (Or.inl ⟨by rfl, ?_⟩) ?_ ?_
            rotate_left
            · intro w'
              go_simp
              with_reducible rfl
            rotate_left
            · simp only [Act.put, List.setIfInBounds_toArray, List.set_cons_zero, List.set_cons_succ, i64_w, i32_w]
              rfl
            refine pure_ (i := 6) (N := some 80) (v := ?_) (a' := ?_) #[true, true, true, true, false, true, true, false, false, false] rfl rfl (by kernel_rfl) (fun _ _ _ h => h) (Or.inl ⟨by rfl, ?_⟩) ?_ ?_
            rotate_left
            · intro w'
              go_simp
              with_reducible rfl
            rotate_left
            · simp only [Act.put, List.setIfInBounds_toArray, List.set_cons_zero, List.set_cons_succ, i64_w, i32_w]
              rfl
            refine take_ (i := 4) (N := some 78) (v := ?_) (a' := ?_) #[true, true, true, true, true, true, true, false, false, false] rfl rfl (by kernel_rfl) (fun _ _ _ h => h) (Or.inl ⟨by rfl, ?_⟩) hHeld ?_ ?_
            rotate_left
            · rintro w' ⟨s0, s1⟩
              refine (exec_loadP (x := .tmp 8) K 0 P s0 ?_ ?_).trans ?_
              · rfl
              · rfl
              · with_reducible rfl
            rotate_left
            · simp only [Act.put, List.setIfInBounds_toArray, List.set_cons_zero, List.set_cons_succ, i64_w, i32_w]
              rfl
            refine take_ (i := 7) (N := some 81) (v := ?_) (a' := ?_) #[true, true, true, true, true, true, true, true, false, false] rfl rfl (by kernel_rfl) (fun _ _ _ h => h) (Or.inl ⟨by rfl, ?_⟩) hHeld ?_ ?_
            rotate_left
            · rintro w' ⟨s0, s1⟩
              refine (exec_loadP (x := .tmp 80) B (k * 64) P s1 ?_ ?_).trans ?_
              · rfl
              · rfl
              · with_reducible rfl
            rotate_left
            · simp only [Act.put, List.setIfInBounds_toArray, List.set_cons_zero, List.set_cons_succ, i64_w, i32_w]
              rfl
            refine pure_ (i := 8) (N := some 82) (v := ?_) (a' := ?_) #[true, true, true, true, true, true, true, true, true, false] rfl rfl (by kernel_rfl) (fun _ _ _ h => h) (Or.inl ⟨by rfl, ?_⟩) ?_ ?_
            rotate_left
            · intro w'
              refine (exec_same (x := .tmp 78) (y := .tmp 81) P ?_ ?_ ?_).trans ?_
              · rfl
              · rfl
              · rfl
              · with_reducible rfl
            rotate_left
            · simp only [Act.put, List.setIfInBounds_toArray, List.set_cons_zero, List.set_cons_succ, i64_w, i32_w]
              rfl
            refine pure_ (i := 9) (N := some 83) (v := ?_) (a' := ?_) #[true, true, true, true, true, true, true, true, true, true] rfl rfl (by kernel_rfl) (fun _ _ _ h => h) (Or.inl ⟨by rfl, ?_⟩) ?_ ?_
            rotate_left
            · intro w'
              go_simp
              with_reducible rfl
            rotate_left
            · simp only [Act.put, List.setIfInBounds_toArray, List.set_cons_zero, List.set_cons_succ, i64_w, i32_w]
              rfl
            refine done_ (by kernel_rfl) ?_
            clear HL11
            go_wp2_with fail
            go_roundg k2
            case measure => exact Nat.lt_succ_self _
            case rel => exact ⟨k + 1, by simp, by omega, HL13⟩
theorem walk (A : Option Addr) (n c : Nat) (l : List Dk.Act) (w : World) (hn : l.length = n) (hc : n ≤ c) (hA : Kd.C ak w A n l) (hb : ∀ x ∈ l, (Lit.int .u8 x.dO).wf = true ∧ (Lit.int .i64 x.at_).wf = true ∧ x.mask < 2 ^ 64) (hg : Hid (Laid w)) :
    Calls Tryd.prog 3 #[.slice A n c] w fun e w' => e = .returned (.bool true) ∧ Below w.heap.size w w' := by
  by_cases h1 : n ≤ 80
  · exact few A n c l w hn h1 hc (by rw [hn]; exact hA) hb hg
  · exact many A n c w (by omega) hg
end Go.Proofs.YtoanhafbofphgaaDoor.RowDiskLast
