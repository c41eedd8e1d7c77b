/- Words that the proof uses. -/
import Derived.Test.YtaodgnladjafoaaGreatDoorStore1V
import Derived.Test.YtaodgnladjafoaaGreatDoorSpaceV
set_option linter.unusedVariables false
set_option linter.unusedSimpArgs false
namespace Go.Proofs.YtaodgnladjafoaaGreatDoor.SpC
open Go.RowKit Go.Proofs.YtaodgnladjafoaaGreatDoor.QStoreLasts Go.Proofs.YtaodgnladjafoaaGreatDoorW.PrintWords Go.Proofs.YtaodgnladjafoaaGreatDoorW.PrintLast Go.Proofs.YtaodgnladjafoaaGreatDoorW.PrintMore Go.Proofs.YtaodgnladjafoaaGreatDoor.SpM
theorem itp {α : Type} {c : Prop} {_ : Decidable c} {A B r : Option α} (hc : c) (h : A = r) : (if c then A else B) = r := by rw [if_pos hc]; exact h
theorem itn {α : Type} {c : Prop} {_ : Decidable c} {A B r : Option α} (hc : ¬ c) (h : B = r) : (if c then A else B) = r := by rw [if_neg hc]; exact h
theorem w1_of (i : Nat) (h : i ≤ 1000000000) : wrap64 ((i : Int) + 1) = ((i + 1 : Nat) : Int) := by unfold wrap64; omega
theorem first_l (xs : List Bool) (n : Int) (hl : xs.length ≤ 1000000000) : ∀ (d k i : Nat), i + d = xs.length → d < k →
    space_First.l0 k n (run xs i : Int) xs (xs.length : Int) (i : Int) = some (find xs n d i) := by
  intro d
  induction d with
  | zero =>
    intro k i hi hk
    obtain ⟨k, rfl⟩ : ∃ m, k = m + 1 := ⟨k - 1, by omega⟩
    have c1 : ¬ (i : Int) < (xs.length : Int) := by omega
    simp only [space_First.l0]
    exact itn c1 rfl
  | succ d ih =>
    intro k i hi hk
    obtain ⟨k, rfl⟩ : ∃ m, k = m + 1 := ⟨k - 1, by omega⟩
    have c1 : (i : Int) < (xs.length : Int) := by omega
    have c2 : (0 : Int) ≤ (i : Int) := Int.natCast_nonneg i
    have e1 := w1_of i (by omega)
    have hr := run_le xs i
    have e2 := w1_of (run xs i) (by omega)
    have hg := rd_get xs i (by omega)
    have hs := run_succ xs i
    have hI := ih k (i + 1) (by omega) (by omega)
    simp only [space_First.l0]
    refine itp c1 (itp c2 (itp c1 ?_))
    rw [hg, e1]
    by_cases hu : xs.getD i true = true
    · rw [if_pos hu] at hs ⊢
      have hz : (0 : Int) = ((run xs (i + 1) : Nat) : Int) := by rw [hs]; rfl
      have hf : find xs n (d + 1) i = find xs n d (i + 1) := by
        simp only [find]
        rw [if_neg (fun h => by omega)]
      rw [hf, ← hI, ← hz]
      by_cases hn : n ≥ 1
      · exact itp hn (itn (by omega) rfl)
      · exact itn hn rfl
    · rw [if_neg hu] at hs ⊢
      rw [e2, ← hs]
      by_cases hn : n ≥ 1
      · refine itp hn ?_
        by_cases he : ((run xs (i + 1) : Nat) : Int) = n
        · refine itp he ?_
          have hf : find xs n (d + 1) i = ((i : Int) - n + 1, true) := by
            simp only [find]
            rw [if_pos ⟨hn, he⟩]
          rw [hf]
          have w1 : wrap64 ((i : Int) - n) = (i : Int) - n := by unfold wrap64; omega
          have w2 : wrap64 ((i : Int) - n + 1) = (i : Int) - n + 1 := by unfold wrap64; omega
          rw [w1, w2]
        · refine itn he ?_
          have hf : find xs n (d + 1) i = find xs n d (i + 1) := by
            simp only [find]
            rw [if_neg (fun h => he h.2)]
          rw [hf]
          exact hI
      · refine itn hn ?_
        have hf : find xs n (d + 1) i = find xs n d (i + 1) := by
          simp only [find]
          rw [if_neg (fun h => hn h.1)]
        rw [hf]
        exact hI
theorem first_at (xs : List Bool) (n : Int) (hl : xs.length ≤ 1000000000) : space_First.f (xs.length + 1) xs n = some (find xs n xs.length 0) := by
  have h := first_l xs n hl xs.length (xs.length + 1) 0 (by omega) (by omega)
  exact h
theorem first_c (xs : List Bool) (n : Int) (A : Option Addr) (c : Nat) (w : World) (hl : xs.length ≤ 1000000000) (hc : xs.length ≤ c) (h : Kd.C Kd.bool w A xs.length xs) :
    Calls Tryz.prog 36 #[.slice A xs.length c, .int .i64 n] w fun e w' => e = .returned (.tuple #[.int .i64 (find xs n xs.length 0).1, .bool (find xs n xs.length 0).2]) ∧ Drawn0 w w' :=
  space_First.calls (xs.length + 1) A c xs n _ _ w h hc (first_at xs n hl)
end Go.Proofs.YtaodgnladjafoaaGreatDoor.SpC
namespace Go.Proofs.YtaodgnladjafoaaGreatDoor.Sto
open Go.RowKit Go.Proofs.YtaodgnladjafoaaGreatDoorW.PrintWords Go.Proofs.YtaodgnladjafoaaGreatDoorW.PrintLast Go.Proofs.YtaodgnladjafoaaGreatDoorW.PrintMore Go.Proofs.YtaodgnladjafoaaGreatDoor.Md Go.Proofs.YtaodgnladjafoaaGreatDoor.Mni Go.Proofs.YtaodgnladjafoaaGreatDoor.QStoreLasts
open Go.Proofs.YtaodgnladjafoaaGreatDoor.Dk (Dsk IsD Ft)
open Go.Proofs.YtaodgnladjafoaaGreatDoor.Err (Laid IsErr code_nil code_c Chain at_some at_nil)
structure Stp (w : World) (q : Pl) (w' : World) (q' : Pl) : Prop where
  mod : Mod (Fs q) w w'
  foot : ∀ i, Fs q' i → Fs q i ∨ w.heap.size ≤ i
theorem Stp.refl (w : World) (q : Pl) : Stp w q w q := ⟨Mod.refl _ _, fun i h => .inl h⟩
theorem Stp.trans {w w1 w2 : World} {q q1 q2 : Pl} (h : Stp w q w1 q1) (k : Stp w1 q1 w2 q2) : Stp w q w2 q2 :=
  ⟨h.mod.trans k.mod (fun i hi hf => (h.foot i hf).elim id (fun e => by omega)), fun i hf => (k.foot i hf).elim (h.foot i) (fun e => .inr (Nat.le_trans h.mod.size e))⟩
theorem Stp.below {w w1 w2 : World} {q q1 : Pl} (h : Stp w q w1 q1) (k : Below w1.heap.size w1 w2) : Stp w q w2 q1 := ⟨h.mod.on_below k (Nat.le_refl _), h.foot⟩
theorem Stp.of_below {w w1 : World} {q : Pl} (k : Below w.heap.size w w1) : Stp w q w1 q := (Stp.refl w q).below k
theorem own_lt' {w : World} {p : Value} {l : List Rf} (h : rk.R 36 w 0 (fun _ => True) p l) : ∀ i, p.ownBlock = some i → i < w.heap.size := fun i hi => ((Kd.R_bound h).1 i hi).2.2.1
theorem IsS.disk {w w' : World} {Z R M H : Nat} {v v' p : Value} {o : Mni.Loc} {m : Man} {s : St} {d' : Dsk} (h : IsS w ⟨Z, R, M, H, v, p⟩ o m s) (k : Mod (Ft R M v) w w') (hd : IsD w' R M v' d') (hv : ∀ i, Ft R M v' i → Ft R M v i ∨ w.heap.size ≤ i) :
    IsS w' ⟨Z, R, M, H, v', p⟩ o m { s with d := d' } ∧ Stp w ⟨Z, R, M, H, v, p⟩ w' ⟨Z, R, M, H, v', p⟩ := by
  have hZ : Z < w.heap.size := Err.lt_of_block h.blk
  have hH : H < w.heap.size := h.held.lt
  have hp := own_lt' h.put
  have hn : ∀ i, Ft R M v' i → i ≠ Z ∧ i ≠ H ∧ p.ownBlock ≠ some i := fun i hi => by
    rcases hv i hi with e | e
    · exact h.n2 i e
    · exact ⟨by omega, by omega, fun g => by have := hp i g; omega⟩
  have hst : Stp w ⟨Z, R, M, H, v, p⟩ w' ⟨Z, R, M, H, v', p⟩ := by
    refine ⟨k.mono (fun i _ hi => .inr (.inr (.inl hi))), ?_⟩
    rintro i (rfl | rfl | hi | hi)
    · exact .inl (.inl rfl)
    · exact .inl (.inr (.inl rfl))
    · exact (hv i hi).elim (fun e => .inl (.inr (.inr (.inl e)))) .inr
    · exact .inl (.inr (.inr (.inr hi)))
  refine ⟨⟨?_, hd, h.held.mod k (fun e => (h.n2 H e).2.1 rfl), row_on rfl h.put k (fun b hb e => (h.n2 b e).2.2 hb), fun w2 h2 hs => ?_, h.n1, hn, h.n3⟩, hst⟩
  · exact k.blk h.blk (fun e => (h.n2 Z e).1 rfl)
  · refine h.man w2 (fun i hi hf => (h2 i (Nat.lt_of_lt_of_le hi k.size) (fun f => ?_)).trans (k.block i hi (fun e => hf (.inr (.inr (.inl e)))))) (Nat.le_trans k.size hs)
    exact (hst.foot i f).elim hf (fun e => by omega)
theorem mod_cellZ (w : World) (Z j : Nat) (u : Value) : Mod (· = Z) w (w.setCell ⟨Z, j, none⟩ u) := (Mod.refl (· = Z) w).set ⟨Z, j, none⟩ _ (.inl rfl)
theorem blk_setZ {w : World} {Z : Nat} {cs : Array Value} {t : TypeId} (h : w.heap[Z]? = some (Obj.cells cs t (0, 0))) (j : Nat) (u : Value) : (w.setCell ⟨Z, j, none⟩ u).heap[Z]? = some (Obj.cells (cs.setIfInBounds j u) t (0, 0)) := Blb.set1 h j u
theorem IsS.setPut {w w1 : World} {Z R M H : Nat} {v p p' : Value} {o : Mni.Loc} {m : Man} {s : St} {l : List Rf} (h : IsS w ⟨Z, R, M, H, v, p⟩ o m s) (k : Mod (fun i => p.ownBlock = some i) w w1) (hR : rk.R 36 w1 0 (fun _ => True) p' l) (hp : p'.ownBlock = none ∨ p'.ownBlock = p.ownBlock ∨ ∃ b, p'.ownBlock = some b ∧ w.heap.size ≤ b) :
    IsS (w1.setCell ⟨Z, 9, none⟩ p') ⟨Z, R, M, H, v, p'⟩ o m { s with put := l } ∧ Stp w ⟨Z, R, M, H, v, p⟩ (w1.setCell ⟨Z, 9, none⟩ p') ⟨Z, R, M, H, v, p'⟩ := by
  have hZ : Z < w.heap.size := Err.lt_of_block h.blk
  have hH : H < w.heap.size := h.held.lt
  have k2 := mod_cellZ w1 Z 9 p'
  have hpi : ∀ i, p'.ownBlock = some i → p.ownBlock = some i ∨ w.heap.size ≤ i := fun i hi => by
    rcases hp with e | e | ⟨b, e, hb⟩
    · rw [e] at hi; cases hi
    · exact .inl (e ▸ hi)
    · rw [e] at hi; cases hi; exact .inr hb
  have n3 : p'.ownBlock ≠ some Z ∧ p'.ownBlock ≠ some H :=
    ⟨fun e => (hpi Z e).elim h.n3.1 (fun e => by omega), fun e => (hpi H e).elim h.n3.2 (fun e => by omega)⟩
  have kk : Mod (fun i => i = Z ∨ p.ownBlock = some i) w (w1.setCell ⟨Z, 9, none⟩ p') := (k.mono (fun i _ hi => .inr hi)).tr (k2.mono (fun i _ hi => .inl hi))
  have hst : Stp w ⟨Z, R, M, H, v, p⟩ (w1.setCell ⟨Z, 9, none⟩ p') ⟨Z, R, M, H, v, p'⟩ := by
    refine ⟨kk.mono (fun i _ hi => hi.elim .inl (fun e => .inr (.inr (.inr e)))), ?_⟩
    rintro i (rfl | rfl | hi | hi)
    · exact .inl (.inl rfl)
    · exact .inl (.inr (.inl rfl))
    · exact .inl (.inr (.inr (.inl hi)))
    · exact (hpi i hi).elim (fun e => .inl (.inr (.inr (.inr e)))) .inr
  refine ⟨⟨?_, ?_, h.held.mod kk (fun e => e.elim (fun e => h.n1 e.symm) h.n3.2), row_on rfl hR k2 (fun b hb e => n3.1 (e ▸ hb)), fun w2 h2 hs => ?_, h.n1, ?_, n3⟩, hst⟩
  · have := blk_setZ (k.blk h.blk h.n3.1) 9 p'
    simpa [sa] using this
  · exact h.dsk.mod kk (fun i hi e => e.elim (h.n2 i hi).1 (h.n2 i hi).2.2)
  · refine h.man w2 (fun i hi hf => (h2 i (Nat.lt_of_lt_of_le hi kk.size) (fun f => ?_)).trans (kk.block i hi (fun e => hf (e.elim .inl (fun e => .inr (.inr (.inr e))))))) (Nat.le_trans kk.size hs)
    exact (hst.foot i f).elim hf (fun e => by omega)
  · intro i hi
    exact ⟨(h.n2 i hi).1, (h.n2 i hi).2.1, fun e => (hpi i e).elim (h.n2 i hi).2.2 (fun e => by have := h.dsk.ft_lt i hi; omega)⟩
theorem put_results (tmps : Array Value) (W : World) (b : Nat) (r : Rf) (e : Value) (h4 : tmps.getD 4 undef = .pointer (some ⟨b, 0, none⟩)) (h5 : tmps.getD 5 undef = e) (h : W.heap[b]? = some (Obj.cells (ra r) 36 (0, 0))) : (results Tryz.f11 tmps).run Tryz.prog W = .ok (.tuple #[.agg (ra r), e]) W := by
  have hl : (loadVar 36 ⟨b, 0, none⟩).run Tryz.prog W = .ok (.agg (ra r)) W := run_loadVar_row W b 36 36 (ra r) (0, 0) _ h Tryz.underlying36 rfl (by kernel_rfl)
  have h4' : tmps[4]?.getD undef = .pointer (some ⟨b, 0, none⟩) := by simpa using h4
  have h5' : tmps[5]?.getD undef = e := by simpa using h5
  simp [results, Tryz.results11, asAddr, h4', h5', hl]
def zr : Rf := ⟨0, 0, 0⟩
structure Ok (m : Man) (s : St) : Prop where
  ms : m.snaps.length ≤ 1000000
  mr : m.refs.length ≤ 1000000
  rt : rightM m s.d.size = true
  rf : ∀ r ∈ s.own :: s.put ++ keys s, 0 ≤ r.f0 ∧ r.f0 ≤ 1000000
  pl : s.put.length ≤ 1000000
def used (m : Man) (s : St) : List Bool := taken ((marks m s.d.size).getD []) s
theorem markR_len (size : Int) : ∀ (l : List Rf) (out out' : List Bool), markR size l out = some out' → out'.length = out.length
  | [], out, out', h => by cases h; rfl
  | r :: l, out, out', h => by
    rw [markR_cons] at h
    split at h
    · cases e : markP (pagesV r.f1).toNat r.f0.toNat out with
      | none => rw [e] at h; cases h
      | some o2 =>
        rw [e, Option.bind_some] at h
        rw [markR_len size l o2 out' h, markP_len _ _ _ _ e]
    · cases h
theorem rightM_sz {m : Man} {size : Int} (h : rightM m size = true) : 2 ≤ size ∧ size ≤ 2048 := by
  unfold rightM at h
  simp only [Bool.and_eq_true, decide_eq_true_eq] at h
  exact h.1
theorem used_len {m : Man} {s : St} (h : Ok m s) : ((used m s).length : Int) = s.d.size := by
  have hr := h.rt
  have hsz := rightM_sz hr
  unfold rightM at hr
  simp only [Bool.and_eq_true] at hr
  obtain ⟨l, hl⟩ := Option.isSome_iff_exists.1 hr.2.2.2.1
  have := markR_len _ _ _ _ hl
  rw [start_len] at this
  unfold used taken
  rw [markAll_len, hl, Option.getD_some, this]
  omega
theorem Stp.row {w w1 w2 : World} {q q1 : Pl} {S : Nat → Prop} (h : Stp w q w1 q1) (k : Mod S w1 w2) (hS : ∀ i, S i → w.heap.size ≤ i) : Stp w q w2 q1 :=
  ⟨h.mod.trans k (fun i hi e => by have := hS i e; omega), h.foot⟩
theorem IsS.man_of {w w' : World} {q q' : Pl} {o : Mni.Loc} {m : Man} {s : St} (h : IsS w q o m s) (k : Stp w q w' q') : ∀ w2 : World, (∀ i, i < w'.heap.size → ¬ Fs q' i → w2.heap[i]? = w'.heap[i]?) → w'.heap.size ≤ w2.heap.size → At w2 o m := fun w2 h2 hs =>
  h.man w2 (fun i hi hf => (h2 i (Nat.lt_of_lt_of_le hi k.mod.size) (fun f => (k.foot i f).elim hf (fun e => by omega))).trans (k.mod.block i hi hf)) (Nat.le_trans k.mod.size hs)
theorem IsS.row {w0 w w' : World} {q0 q : Pl} {o : Mni.Loc} {m : Man} {s0 s : St} {S : Nat → Prop} (h : IsS w q o m s) (h0 : IsS w0 q0 o m s0) (k0 : Stp w0 q0 w' q) (k : Mod S w w') (hS : ∀ i, Fs q i → ¬ S i) : IsS w' q o m s :=
  ⟨k.blk h.blk (hS _ (.inl rfl)), h.dsk.mod k (fun i hi => hS i (.inr (.inr (.inl hi)))), h.held.mod k (hS _ (.inr (.inl rfl))), row_on (α := Rf) rfl h.put k (fun b hb => hS b (.inr (.inr (.inr hb)))), h0.man_of k0, h.n1, h.n2, h.n3⟩
theorem Stp.out {w w' : World} {q q' : Pl} (k : Stp w q w' q') {b : Nat} (hb : b < w.heap.size) (hn : ¬ Fs q b) : ¬ Fs q' b ∧ w'.heap[b]? = w.heap[b]? :=
  ⟨fun f => (k.foot b f).elim hn (fun e => by omega), k.mod.block b hb hn⟩
theorem mod_grown {w w1 : World} {p : Value} (h : w.grownBy w1 p.ownBlock) : Mod (fun i => p.ownBlock = some i) w w1 :=
  ⟨h.os, h.tape, h.output, h.size, fun k hk hn => h.block k hk (fun e => hn e.symm)⟩
theorem isErr_box {w w1 : World} {Y : Nat} {r : Rf} {v : Value} {n : Int} (h : IsErr w v n) (hY : w.heap[Y]? = some (Obj.cells (ra r) 36 (0, 0))) (k : Mod (· = Y) w w1) : IsErr w1 v n :=
  Dk.isErr_mod h k (fun b cs2 hb (e : b = Y) => by rw [e, hY] at hb; simp at hb)
set_option maxHeartbeats 4000000 in
set_option maxRecDepth 100000 in
theorem Put_size (Z R M H : Nat) (v p : Value) (o : Mni.Loc) (m : Man) (s : St) (t : ByteArray) (n : Int) (w : World) (h : Hid (IsS w ⟨Z, R, M, H, v, p⟩ o m s)) (hp : Hid (Blb.pagesV (t.size : Int) = n)) (hn : n = 0) :
    Calls Tryz.prog 11 #[.pointer (some ⟨Z, 0, none⟩), .string t] w fun e w' => ∃ T x, e = .returned (.tuple #[.agg (ra zr), .iface T x]) ∧ IsErr w' (.iface T x) 15 ∧ Below w.heap.size w w' := by
  have t0 : (n == 0) = true := by rw [hn]; rfl
  have c0 := h.out.cs.1
  go_enter Tryz.func11, Tryz.ntmps11
  go_upto_region 3 with (first | (refine wl_allocR rfl rfl ?_))
  have hb1 : Below w.heap.size w (w.alloc (Obj.cells #[.int .i64 0, .int .i64 0, .int .u32 0] 36 (0, 0))) := (Below.refl _ _).alloc (Nat.le_refl _) _
  have HY1 := Lib.hid (show (w.alloc (Obj.cells #[.int .i64 0, .int .i64 0, .int .u32 0] 36 (0, 0))).heap[w.heap.size]? = some (Obj.cells (ra zr) 36 (0, 0)) from heap_alloc_last w (Obj.cells (ra zr) 36 (0, 0)))
  have H1 := Lib.hid (h.out.on hb1)
  have HB1 := Lib.hid hb1
  obtain ⟨Y, hY⟩ : ∃ Y, w.heap.size = Y := ⟨_, rfl⟩
  have HW := Lib.hid hY
  have hZY : Z < Y := by rw [← hY]; exact Err.lt_of_block h.out.blk
  have hfY := h.out.lt
  rw [hY] at HY1 hfY
  simp only [hY]
  generalize hw1 : (w.alloc (Obj.cells #[.int .i64 0, .int .i64 0, .int .u32 0] 36 (0, 0))) = w1 at *
  clear hb1 hw1 hY c0
  go_wp2_with fail
  refine (Blb.pages_c _ n hp w1).mono ?_
  rintro e w2 ⟨rfl, hd⟩
  have hd := hd.below
  have H2 := Lib.hid (H1.out.on hd)
  have HB2 := below_to HB1 (Nat.le_refl _) hd
  have HY2 := blk_to HY1 hd
  clear hd H1 HB1 HY1
  go_wp2_with fail
  refine (at_err _ _ 15 w2).mono ?_
  rintro e w3 ⟨T, x, rfl, he, hd⟩
  have HE3 := Lib.hid he
  have HB3 := below_to HB2 (Nat.le_refl _) hd
  have HY3 := blk_to HY2 hd
  clear he hd H2 HB2 HY2
  go_wp2_with (first | (refine wl_storeR Y (ra zr) rfl zr HY3.out rfl _ _ rfl rfl rfl ?_))
  (try simp only [Exit.inBlock, Exit.then])
  have hm := mod_row w3 Y (ra zr)
  refine bodyPost_ret (v := .tuple #[.agg (ra zr), .iface T x]) ?_ rfl ?_
  · exact put_results _ _ Y zr _ rfl rfl (setRow_heap _ Y _ _ _ _ HY3.out)
  exact ⟨T, x, rfl, isErr_box HE3.out HY3.out hm, HB3.out.trans (hm.below HB3.out.size (fun i hi (e : i = Y) => by have := HW.out; omega))⟩
set_option maxHeartbeats 8000000 in
set_option maxRecDepth 100000 in
theorem Put_no (Z R M H : Nat) (v p : Value) (o : Mni.Loc) (m : Man) (s : St) (t : ByteArray) (n : Int) (x : Int) (w : World) (h : Hid (IsS w ⟨Z, R, M, H, v, p⟩ o m s)) (hok : Ok m s) (hp : Hid (Blb.pagesV (t.size : Int) = n)) (hn : n ≠ 0) (hf : Hid (SpM.find (used m s) n (used m s).length 0 = (x, false))) :
    Calls Tryz.prog 11 #[.pointer (some ⟨Z, 0, none⟩), .string t] w fun e w' => ∃ T x, e = .returned (.tuple #[.agg (ra zr), .iface T x]) ∧ IsErr w' (.iface T x) 9 ∧ Below w.heap.size w w' := by
  have t0 : (n == 0) = false := beq_eq_false_iff_ne.2 hn
  have hul := used_len hok
  have hs2 := rightM_sz hok.rt
  have c0 := h.out.cs.1
  go_enter Tryz.func11, Tryz.ntmps11
  go_upto_region 3 with (first | (refine wl_allocR rfl rfl ?_))
  have hb1 : Below w.heap.size w (w.alloc (Obj.cells #[.int .i64 0, .int .i64 0, .int .u32 0] 36 (0, 0))) := (Below.refl _ _).alloc (Nat.le_refl _) _
  have HY1 := Lib.hid (show (w.alloc (Obj.cells #[.int .i64 0, .int .i64 0, .int .u32 0] 36 (0, 0))).heap[w.heap.size]? = some (Obj.cells (ra zr) 36 (0, 0)) from heap_alloc_last w (Obj.cells (ra zr) 36 (0, 0)))
  have H1 := Lib.hid (h.out.on hb1)
  have HB1 := Lib.hid hb1
  obtain ⟨Y, hY⟩ : ∃ Y, w.heap.size = Y := ⟨_, rfl⟩
  have HW := Lib.hid hY
  have hZY : Z < Y := by rw [← hY]; exact Err.lt_of_block h.out.blk
  have hfY := h.out.lt
  rw [hY] at HY1 hfY
  simp only [hY]
  generalize hw1 : (w.alloc (Obj.cells #[.int .i64 0, .int .i64 0, .int .u32 0] 36 (0, 0))) = w1 at *
  clear hb1 hw1 hY c0
  go_wp2_with fail
  refine (Blb.pages_c _ n hp w1).mono ?_
  rintro e w2 ⟨rfl, hd⟩
  have hd := hd.below
  have H2 := Lib.hid (H1.out.on hd)
  have HB2 := below_to HB1 (Nat.le_refl _) hd
  have HY2 := blk_to HY1 hd
  clear hd H1 HB1 HY1
  go_wp2_with fail
  refine (Taken_c Z R M H v p o m s w2 H2 hok.ms hok.mr (Lib.hid hok.rt) hok.rf hok.pl).mono ?_
  rintro e w3 ⟨u, rfl, hu, hd⟩
  obtain ⟨A, c, rfl, hc, hr⟩ := Kd.R_reads hu
  have H3 := Lib.hid (H2.out.on hd)
  have HB3 := below_to HB2 (Nat.le_refl _) hd
  have HY3 := blk_to HY2 hd
  clear hu hd H2 HB2 HY2
  have eu : taken ((marks m s.d.size).getD []) s = used m s := rfl
  rw [eu] at hc hr
  have HR3 := Lib.hid hr
  clear hr
  rw [eu]
  clear eu
  go_wp2_with fail
  refine (SpC.first_c (used m s) n A c w3 (by omega) hc HR3.out).mono ?_
  rintro e w4 ⟨rfl, hd⟩
  rw [hf.out]
  have hd := hd.below
  have H4 := Lib.hid (H3.out.on hd)
  have HB4 := below_to HB3 (Nat.le_refl _) hd
  have HY4 := blk_to HY3 hd
  clear hd H3 HB3 HY3 HR3
  go_wp2_with fail
  refine (at_err _ _ 9 w4).mono ?_
  rintro e w5 ⟨T, y, rfl, he, hd⟩
  have HE5 := Lib.hid he
  have HB5 := below_to HB4 (Nat.le_refl _) hd
  have HY5 := blk_to HY4 hd
  clear he hd H4 HB4 HY4
  go_wp2_with (first | (refine wl_storeR Y (ra zr) rfl zr HY5.out rfl _ _ rfl rfl rfl ?_))
  (try simp only [Exit.inBlock, Exit.then])
  have hm := mod_row w5 Y (ra zr)
  refine bodyPost_ret (v := .tuple #[.agg (ra zr), .iface T y]) ?_ rfl ?_
  · exact put_results _ _ Y zr _ rfl rfl (setRow_heap _ Y _ _ _ _ HY5.out)
  exact ⟨T, y, rfl, isErr_box HE5.out HY5.out hm, HB5.out.trans (hm.below HB5.out.size (fun i hi (e : i = Y) => by have := HW.out; omega))⟩
end Go.Proofs.YtaodgnladjafoaaGreatDoor.Sto
