/- Words that the proof uses. -/
import Derived.Test.YtaodgnladjafoaaGreatDoorStore0V
set_option linter.unusedVariables false
set_option linter.unusedSimpArgs false
namespace Go.Proofs.YtaodgnladjafoaaGreatDoor.Sto
open Go.RowKit Go.Proofs.YtaodgnladjafoaaGreatDoorW.PrintWords Go.Proofs.YtaodgnladjafoaaGreatDoorW.PrintLast Go.Proofs.YtaodgnladjafoaaGreatDoorW.PrintMore Go.Proofs.YtaodgnladjafoaaGreatDoor.Md Go.Proofs.YtaodgnladjafoaaGreatDoor.Mni Go.Proofs.YtaodgnladjafoaaGreatDoor.QStoreLasts
open Go.Proofs.YtaodgnladjafoaaGreatDoor.Dk (Dsk IsD Ft)
open Go.Proofs.YtaodgnladjafoaaGreatDoor.Err (Laid IsErr code_nil code_c Chain at_some at_nil)
open Go.ChangeMaps (setBlock)
theorem exec_loadMS {ρ : Operand → Value} {oo : Oper} {x : Operand} {W : World} {q : Pl} {o : Mni.Loc} {m : Man} {s : St} (ho : oo.op = .load 43 x) (hx : ρ x = .pointer (some ⟨q.S, 2, none⟩)) (hp : W.heap[q.S]? = some (Obj.cells (sa q o m s) 82 (0, 0))) : (execOp ρ oo).run Tryz.prog W = .ok (.value (.agg (o.a m))) W := by
 have h := run_load_off aggM szM W q.S 2 (sa q o m s) 82 (o.a m).toList hp rfl (fun j v hj => by
  rcases j with _ | _ | _ | _ | j
  ·cases hj; rfl
  ·cases hj; rfl
  ·cases hj; rfl
  ·cases hj; rfl
  ·simp [Loc.a] at hj)
 unfold execOp; simp only [ho, hx, h, Sem.run_bind, Sem.run_pure, Result.andThen_ok]
theorem exec_loadOS {ρ : Operand → Value} {oo : Oper} {x : Operand} {W : World} {q : Pl} {o : Mni.Loc} {m : Man} {s : St} (ho : oo.op = .load 36 x) (hx : ρ x = .pointer (some ⟨q.S, 6, none⟩)) (hp : W.heap[q.S]? = some (Obj.cells (sa q o m s) 82 (0, 0))) : (execOp ρ oo).run Tryz.prog W = .ok (.value (.agg (ra s.own))) W := by
 have h := run_load_off aggRf szRf W q.S 6 (sa q o m s) 82 (ra s.own).toList hp rfl (fun j v hj => by
  rcases j with _ | _ | _ | j
  ·cases hj; rfl
  ·cases hj; rfl
  ·cases hj; rfl
  ·simp [ra] at hj)
 unfold execOp; simp only [ho, hx, h, Sem.run_bind, Sem.run_pure, Result.andThen_ok]
section
variable {ops : Array Oper} {rest : List Oper} {oo : Oper} {a : Go.Act} {w : World} {Q : Exit → Go.Act → World → Prop}
theorem wl_loadOS (q : Pl) (o : Mni.Loc) (m : Man) (s : St) (hp : w.heap[q.S]? = some (Obj.cells (sa q o m s) 82 (0, 0))) (hgd : oo.guard = none) (p_ : Operand) (ho : oo.op = .load 36 p_) (hx : a.eval p_ = .pointer (some ⟨q.S, 6, none⟩))
  (h : wpList Tryz.prog ops Q rest (a.put oo.dst (.agg (ra s.own))) w) : wpList Tryz.prog ops Q (oo :: rest) a w :=
 Kd.event_run hgd (exec_loadOS ho hx hp) h
end
theorem IsS.cs {w : World} {q : Pl} {o : Mni.Loc} {m : Man} {s : St} (h : IsS w q o m s) : w.cell? ⟨q.S, 0, none⟩ = some (.pointer (some ⟨q.R, 0, none⟩)) ∧ w.cell? ⟨q.S, 1, none⟩ = some (.int .u32 s.gen) ∧ w.cell? ⟨q.S, 9, none⟩ = some q.p ∧ w.cell? ⟨q.S, 10, none⟩ = some (.map (some q.H)) :=
 ⟨Err.cell_of_blk h.blk 0, Err.cell_of_blk h.blk 1, Err.cell_of_blk h.blk 9, Err.cell_of_blk h.blk 10⟩
def covers (r : Rf) (i : Nat) : Bool := decide (r.f0 ≤ (i : Int) ∧ (i : Int) < r.f0 + pagesV r.f1)
def markAll (U : List Bool) (l : List Rf) : List Bool := U.mapIdx fun i u => u || l.any (fun r => covers r i)
def keys (s : St) : List Rf := s.held.map (·.1)
def taken (U : List Bool) (s : St) : List Bool := markAll U (s.own :: s.put ++ keys s)
theorem markAll_len (U : List Bool) (l : List Rf) : (markAll U l).length = U.length := by simp [markAll]
theorem markAll_get (U : List Bool) (l : List Rf) (i : Nat) : (markAll U l)[i]? = U[i]?.map (fun u => u || l.any (fun r => covers r i)) := by simp [markAll]
theorem markAll_more (U : List Bool) (l : List Rf) (r : Rf) : markAll (markAll U l) [r] = markAll U (l ++ [r]) := by
 apply List.ext_getElem?
 intro i
 rw [markAll_get, markAll_get, markAll_get]
 cases U[i]? <;> simp [Bool.or_assoc]
theorem markAll_same (U : List Bool) {l l' : List Rf} (h : ∀ r, r ∈ l ↔ r ∈ l') : markAll U l = markAll U l' := by
 apply List.ext_getElem?
 intro i
 rw [markAll_get, markAll_get]
 have : l.any (fun r => covers r i) = l'.any (fun r => covers r i) := by
  rw [Bool.eq_iff_iff, List.any_eq_true, List.any_eq_true]
  exact ⟨fun ⟨x, hx, hc⟩ => ⟨x, (h x).1 hx, hc⟩, fun ⟨x, hx, hc⟩ => ⟨x, (h x).2 hx, hc⟩⟩
 rw [this]
def markN : Nat → Int → List Bool → List Bool
 | 0, _, us => us
 | n + 1, a, us => markN n (a + 1) (if 0 ≤ a ∧ a < (us.length : Int) then us.set a.toNat true else us)
theorem markN_get : ∀ (n : Nat) (a : Int) (us : List Bool) (i : Nat), (markN n a us)[i]? = us[i]?.map (fun u => u || decide (a ≤ (i : Int) ∧ (i : Int) < a + (n : Int)))
 | 0, a, us, i => by
  have : decide (a ≤ (i : Int) ∧ (i : Int) < a + ((0 : Nat) : Int)) = false := decide_eq_false (by omega)
  rw [this]
  show us[i]? = _
  cases us[i]? <;> simp
 | n + 1, a, us, i => by
  unfold markN
  rw [markN_get n (a + 1)]
  by_cases hin : 0 ≤ a ∧ a < (us.length : Int)
  ·rw [if_pos hin, List.getElem?_set]
   by_cases e : a.toNat = i
   ·rw [if_pos e, if_pos (by omega)]
    have hi : i < us.length := by omega
    rw [List.getElem?_eq_getElem hi]
    have : decide (a ≤ (i : Int) ∧ (i : Int) < a + ((n + 1 : Nat) : Int)) = true := decide_eq_true (by omega)
    rw [this]
    simp
   ·rw [if_neg e]
    have : decide (a + 1 ≤ (i : Int) ∧ (i : Int) < a + 1 + (n : Int)) = decide (a ≤ (i : Int) ∧ (i : Int) < a + ((n + 1 : Nat) : Int)) := decide_eq_decide.2 (by omega)
    rw [this]
  ·rw [if_neg hin]
   rcases Nat.lt_or_ge i us.length with hi | hi
   ·have : decide (a + 1 ≤ (i : Int) ∧ (i : Int) < a + 1 + (n : Int)) = decide (a ≤ (i : Int) ∧ (i : Int) < a + ((n + 1 : Nat) : Int)) := decide_eq_decide.2 (by omega)
    rw [this]
   ·rw [List.getElem?_eq_none hi]; rfl
theorem markN_all (r : Rf) (us : List Bool) : markN (pagesV r.f1).toNat r.f0 us = markAll us [r] := by
 have hp := Blb.pagesV_le r.f1
 have e0 : Blb.pagesV r.f1 = pagesV r.f1 := rfl
 rw [e0] at hp
 apply List.ext_getElem?
 intro i
 rw [markN_get, markAll_get]
 have : decide (r.f0 ≤ (i : Int) ∧ (i : Int) < r.f0 + (((pagesV r.f1).toNat : Nat) : Int)) = covers r i := decide_eq_decide.2 (by omega)
 rw [this]
 cases us[i]? <;> simp
theorem taken_run (x y z pg : Int) (hx : -4611686018427387904 ≤ x ∧ x ≤ 4611686018427387904) (hp : pg ≤ 256) : ∀ (n : Nat) (i : Int) (us : List Bool), i + n = pg → 0 ≤ i → store_taken.l0 (n + 1) us pg i x y z = some (markN n (x + i) us)
 | 0, i, us, hi, h0 => by
  unfold store_taken.l0
  rw [if_neg (by omega)]
  rfl
 | n + 1, i, us, hi, h0 => by
  have e1 : wrap64 (x + i) = x + i := by unfold wrap64; omega
  have e2 : wrap64 (i + 1) = i + 1 := by unfold wrap64; omega
  unfold store_taken.l0
  rw [if_pos (by omega), e1, e2]
  unfold markN
  have ea : x + i + 1 = x + (i + 1) := by omega
  by_cases h1 : 0 ≤ x + i
  ·rw [if_pos h1]
   by_cases h2 : x + i < (us.length : Int)
   ·rw [if_pos h2, if_pos h1, if_pos ⟨h1, h2⟩, taken_run x y z pg hx hp n (i + 1) _ (by omega) (by omega), ea]
   ·rw [if_neg h2, if_neg (fun h => h2 h.2), taken_run x y z pg hx hp n (i + 1) _ (by omega) (by omega), ea]
  ·rw [if_neg h1, if_neg (fun h => h1 h.1), taken_run x y z pg hx hp n (i + 1) _ (by omega) (by omega), ea]
theorem taken_f (r : Rf) (us : List Bool) (hx : -4611686018427387904 ≤ r.f0 ∧ r.f0 ≤ 4611686018427387904) : ∃ k, store_taken.f k us r.f0 r.f1 r.f2 = some (markAll us [r]) := by
 have hp := Blb.pagesV_le r.f1
 have e0 : Blb.pagesV r.f1 = pagesV r.f1 := rfl
 rw [e0] at hp
 refine ⟨(pagesV r.f1).toNat + 1, ?_⟩
 unfold store_taken.f
 rw [Blb.pages_at, Option.bind_some, e0, taken_run r.f0 r.f1 r.f2 (pagesV r.f1) hx hp.2 (pagesV r.f1).toNat 0 us (by omega) (Int.le_refl _), Int.add_zero, markN_all]
theorem taken_c (v : Value) (us : List Bool) (r : Rf) (w0 w : World) (hB : Below w0.heap.size w0 w) (h : Kd.R Kd.bool 4 w w0.heap.size (fun _ => True) v us) (hx : -4611686018427387904 ≤ r.f0 ∧ r.f0 ≤ 4611686018427387904) :
  Calls Tryz.prog 47 #[v, .agg (ra r)] w fun e w' => e = .returned (.tuple #[]) ∧ Kd.R Kd.bool 4 w' w0.heap.size (fun _ => True) v (markAll us [r]) ∧ Below w0.heap.size w0 w' ∧ Kept w w' (fun k => some k = v.ownBlock) := by
 obtain ⟨k, hk⟩ := taken_f r us hx
 refine (store_taken.calls k (fun k => some k = v.ownBlock) v us r.f0 r.f1 r.f2 _ w0 w hB (Kd.R_tight rfl h) hk).mono ?_
 rintro e w' ⟨rfl, h1, h2, h3⟩
 exact ⟨rfl, Kd.R_mono h1 (fun _ _ => trivial), h2, h3⟩
theorem used_R (o : Mni.Loc) (m : Man) (size : Int) (w : World) (h : Hid (At w o m)) (hm : m.snaps.length ≤ 1000000) (hr : m.refs.length ≤ 1000000) (hR : Hid (rightM m size = true)) :
  Calls Tryz.prog 46 #[.agg (o.a m), .int .i64 size] w fun e w' => ∃ v, e = .returned v ∧ Kd.R Kd.bool 4 w' w.heap.size (fun _ => True) v ((marks m size).getD []) ∧ Below w.heap.size w w' := by
 have hsz : 2 ≤ size ∧ size ≤ 2048 := by
  have z := hR.out
  unfold rightM at z
  simp only [Bool.and_eq_true, decide_eq_true_eq] at z
  exact z.1
 have hd0 : Below w.heap.size w (w.alloc (Obj.cells (o.a m) 43 (0, 0))) := (Below.refl _ _).alloc (Nat.le_refl _) _
 have H1 := Lib.hid (h.out.on hd0)
 have HB1 := Lib.hid hd0
 have HX1 := Lib.hid (heap_alloc_last w (Obj.cells (o.a m) 43 (0, 0)))
 go_enter Tryz.func46, Tryz.ntmps46
 go_upto_region 1 with fail
 obtain ⟨X, hX⟩ : ∃ X, w.heap.size = X := ⟨_, rfl⟩
 have HW := Lib.hid hX
 rw [hX] at HX1
 simp only [hX]
 generalize hw1 : w.alloc (Obj.cells (o.a m) 43 (0, 0)) = w1 at *
 clear hw1 hd0 h hX
 go_wp2_with (first | (refine wl_loadM X o m HX1.out rfl _ rfl rfl ?_))
 refine (right_c o m size w1 H1 hm hr).mono ?_
 rintro e w2 ⟨rfl, hd⟩
 rw [hR.out]
 have H2 := Lib.hid (H1.out.on hd)
 have HB2 := below_to HB1 (Nat.le_refl _) hd
 have HX2 := blk_to HX1 hd
 clear hd H1 HB1 HX1
 go_wp2_with (first | (refine wl_loadM X o m HX2.out rfl _ rfl rfl ?_))
 obtain ⟨k, hk⟩ := marked_f m size hsz.1 (by omega) hr
 refine (mani_Manifest_marked.calls k o.p0 o.c0 m.refs o.p1 o.c1 m.stack m.upper o.p3 o.c3 m.snaps size _ _ w2 H2.out.r H2.out.rc H2.out.s H2.out.sc H2.out.n H2.out.nc hk).mono ?_
 rintro e w3 ⟨v, rfl, hC, hd⟩
 have HB3 := below_to HB2 (Nat.le_refl _) hd
 have HC := Lib.hid (Kd.R_lower hC HB2.out.size)
 clear hd H2 HB2 HX2 hC
 go_wp2_with fail
 go_ret
 exact ⟨v, rfl, HC.out, HB3.out⟩
structure Came (L : List (Rf × Int)) (es : Array MapEntry) (seen : Array Nat) (l : List Rf) : Prop where
 iff : ∀ r, r ∈ l ↔ ∃ e ∈ es.toList, seen.contains e.born = true ∧ e.key = .agg (ra r)
theorem ra_inj {x y : Rf} (h : ra x = ra y) : x = y := by
 cases x; cases y
 simp [ra] at h
 obtain ⟨rfl, rfl, rfl⟩ := h
 rfl
theorem key_of {L : List (Rf × Int)} {es : Array MapEntry} {clock : Nat} (h : HeldIn L es clock) {e : MapEntry} (he : e ∈ es.toList) : ∃ p ∈ L, e.key = .agg (ra p.1) ∧ e.val = .int .i64 p.2 := by
 have hm : (e.key, e.val) ∈ es.toList.map (fun e => (e.key, e.val)) := List.mem_map.2 ⟨e, he, rfl⟩
 rw [h.kv] at hm
 obtain ⟨p, hp, hk⟩ := List.mem_map.1 hm
 obtain ⟨h1, h2⟩ := Prod.mk.inj hk
 exact ⟨p, hp, h1.symm, h2.symm⟩
theorem of_key {L : List (Rf × Int)} {es : Array MapEntry} {clock : Nat} (h : HeldIn L es clock) {p : Rf × Int} (hp : p ∈ L) : ∃ e ∈ es.toList, e.key = .agg (ra p.1) := by
 have hm : kv p ∈ L.map kv := List.mem_map.2 ⟨p, hp, rfl⟩
 rw [← h.kv] at hm
 obtain ⟨e, he, hk⟩ := List.mem_map.1 hm
 exact ⟨e, he, (Prod.mk.inj hk).1⟩
theorem Came.start (L : List (Rf × Int)) (es : Array MapEntry) : Came L es #[] [] := ⟨fun r => ⟨fun h => (List.not_mem_nil h).elim, fun ⟨e, he, hs, _⟩ => by simp at hs⟩⟩
theorem Came.next {L : List (Rf × Int)} {es : Array MapEntry} {clock : Nat} {seen : Array Nat} {l : List Rf} (h : Came L es seen l) (hh : HeldIn L es clock) {e : MapEntry} (he : e ∈ es.toList) {r : Rf} (hk : e.key = .agg (ra r)) : Came L es (seen.push e.born) (l ++ [r]) := by
 refine ⟨fun r' => ?_⟩
 rw [List.mem_append, List.mem_singleton, h.iff]
 constructor
 ·rintro (⟨e', h1, h2, h3⟩ | rfl)
  ·exact ⟨e', h1, by simp at h2 ⊢; exact .inl h2, h3⟩
  ·exact ⟨e, he, by simp, hk⟩
 ·rintro ⟨e', h1, h2, h3⟩
  simp at h2
  rcases h2 with h2 | h2
  ·exact .inl ⟨e', h1, by simpa using h2, h3⟩
  ·have f1 := find_born e es.toList hh.nd he
   have f2 := find_born e' es.toList hh.nd h1
   rw [h2, f1] at f2
   cases f2
   rw [hk] at h3
   exact .inr (ra_inj (by simpa using h3.symm))
theorem Came.all {L : List (Rf × Int)} {es : Array MapEntry} {clock : Nat} {seen : Array Nat} {l : List Rf} (h : Came L es seen l) (hh : HeldIn L es clock) (h0 : (leftOf es seen).size = 0) : ∀ r, r ∈ l ↔ r ∈ L.map (·.1) := by
 intro r
 rw [h.iff, List.mem_map]
 constructor
 ·rintro ⟨e, he, _, hk⟩
  obtain ⟨p, hp, h1, _⟩ := key_of hh he
  rw [hk] at h1
  exact ⟨p, hp, (ra_inj (by simpa using h1)).symm⟩
 ·rintro ⟨p, hp, rfl⟩
  obtain ⟨e, he, hk⟩ := of_key hh hp
  exact ⟨e, he, all_seen es seen h0 e he, hk⟩
section
variable {ops : Array Oper} {rest : List Oper} {oo : Oper} {a : Go.Act} {w : World} {Q : Exit → Go.Act → World → Prop}
theorem wl_rangeH (H : Nat) (es : Array MapEntry) (clock : Nat) (hp : w.heap[H]? = some (Obj.map es clock)) (hgd : oo.guard = none) (x : Operand) (ho : oo.op = .range 80 x) (hx : a.eval x = .map (some H))
  (h : wpList Tryz.prog ops Q rest (a.put oo.dst (.pointer (some ⟨w.heap.size, 0, none⟩))) (w.alloc (.mapIter (some H) clock #[] clock))) : wpList Tryz.prog ops Q (oo :: rest) a w := by
 refine Kd.event_run hgd ?_ h
 have hrun : (Instr.range 80 (.map (some H))).run Tryz.prog w = .ok (.pointer (some ⟨w.heap.size, 0, none⟩)) (w.alloc (.mapIter (some H) clock #[] clock)) := by
  simp [Instr.range, run_underlying Tryz.underlying80, MapKept.run_getObj_map hp, Result.andThen, newObj, Sem.run]
 unfold execOp
 simp only [ho, hx, hrun, Sem.run_bind, Sem.run_pure, Result.andThen_ok]
theorem wl_nextH (I H : Nat) (L : List (Rf × Int)) (es : Array MapEntry) (clock c0 : Nat) (seen : Array Nat) (hh : HeldIn L es clock) (hi : w.heap[I]? = some (Obj.mapIter (some H) clock seen c0)) (hp : w.heap[H]? = some (Obj.map es clock)) (hc : clock ≤ c0) (hgd : oo.guard = none) (x : Operand) (ho : oo.op = .next x false) (hx : a.eval x = .pointer (some ⟨I, 0, none⟩))
  (hDone : Hid ((leftOf es seen).size = 0) → wpList Tryz.prog ops Q rest (a.put oo.dst (.tuple #[.bool false])) w)
  (hMore : ∀ (e : MapEntry) (r : Rf) (c : Int) (w' : World), Hid (e ∈ (leftOf es seen).toList ∧ (r, c) ∈ L ∧ e.key = .agg (ra r) ∧ Mod (· = I) w w' ∧ w'.heap.size = w.heap.size ∧ w'.heap[I]? = some (Obj.mapIter (some H) clock (seen.push e.born) clock)) → (Instr.entry (.pointer (some ⟨I, 0, none⟩))).run Tryz.prog w' = .ok (.tuple #[.agg (ra r), .int .i64 c]) w' → wpList Tryz.prog ops Q rest (a.put oo.dst (.tuple #[.bool true, .agg (ra r), .int .i64 c])) w') :
  wpList Tryz.prog ops Q (oo :: rest) a w := by
 refine wpList_plain hgd fun K' hK' => ?_
 unfold Oper.wp
 have hIH : I ≠ H := fun e => by rw [e, hp] at hi; cases hi
 rcases run_next_at (P := Tryz.prog) w oo.type I H clock c0 seen es clock hi hp hh.lt hc with ⟨h0, hrun⟩ | ⟨e, he, w1, hw1, hrun⟩
 ·unfold execOp
  simp only [ho, hx, hrun, Sem.run_bind, Sem.run_pure, Result.andThen_ok]
  exact hK' _ _ (hDone (Lib.hid h0))
 ·obtain ⟨p, hp1, hk, hv⟩ := key_of hh (mem_left he).1
  have hi1 : w1.heap[I]? = some (Obj.mapIter (some H) clock seen c0) := by rcases hw1 with rfl | rfl <;> exact hi
  have hp2 : w1.heap[H]? = some (Obj.map es clock) := by rcases hw1 with rfl | rfl <;> exact hp
  have hlt := Err.lt_of_block hi1
  have g1 : (setBlock w1 I (.mapIter (some H) clock (seen.push e.born) clock)).heap[I]? = some (Obj.mapIter (some H) clock (seen.push e.born) clock) := by simp [setBlock, hlt]
  have g2 : (setBlock w1 I (.mapIter (some H) clock (seen.push e.born) clock)).heap[H]? = some (Obj.map es clock) := by
   simp only [setBlock]
   rw [Array.getElem?_setIfInBounds_ne hIH]; exact hp2
  have hM : Mod (· = I) w (setBlock w1 I (.mapIter (some H) clock (seen.push e.born) clock)) := by
   have : Mod (· = I) w w1 := by rcases hw1 with rfl | rfl; exact Mod.refl _ _; exact (Mod.refl _ _).drew
   exact this.tr Dk.mod_setObj
  have hS : (setBlock w1 I (.mapIter (some H) clock (seen.push e.born) clock)).heap.size = w.heap.size := by
   simp only [setBlock, Array.size_setIfInBounds]
   rcases hw1 with rfl | rfl <;> rfl
  have hE := run_entry_at (P := Tryz.prog) _ I H clock seen es clock e g1 g2 (mem_left he).1 hh.nd
  rw [hk, hv] at hE
  unfold execOp
  simp only [ho, hx, hrun, Sem.run_bind, Sem.run_pure, Result.andThen_ok]
  rw [hk, hv]
  exact hK' _ _ (hMore e p.1 p.2 _ (Lib.hid ⟨he, hp1, hk, hM, hS, g1⟩) hE)
end
set_option maxHeartbeats 8000000 in
set_option maxRecDepth 100000 in
theorem Taken_c (Z R M H : Nat) (v p : Value) (o : Mni.Loc) (m : Man) (s : St) (w : World) (h : Hid (IsS w ⟨Z, R, M, H, v, p⟩ o m s)) (hm : m.snaps.length ≤ 1000000) (hr : m.refs.length ≤ 1000000) (hR : Hid (rightM m s.d.size = true)) (hb : ∀ r ∈ s.own :: s.put ++ keys s, 0 ≤ r.f0 ∧ r.f0 ≤ 1000000) (hl : s.put.length ≤ 1000000) :
  Calls Tryz.prog 19 #[.pointer (some ⟨Z, 0, none⟩)] w fun e w' => ∃ u, e = .returned u ∧ Kd.R Kd.bool 4 w' w.heap.size (fun _ => True) u (taken ((marks m s.d.size).getD []) s) ∧ Below w.heap.size w w' := by
 obtain ⟨U, hU⟩ : ∃ U, (marks m s.d.size).getD [] = U := ⟨_, rfl⟩
 have HU := Lib.hid hU
 rw [hU]
 clear hU
 obtain ⟨N, hN⟩ : ∃ N, s.d.size = N := ⟨_, rfl⟩
 rw [hN] at hR HU
 have HN := Lib.hid hN
 clear hN
 have HB := Lib.hid hb
 clear hb
 have c0 := h.out.cs.1
 have c9 := h.out.cs.2.2.1
 have c10 := h.out.cs.2.2.2
 go_enter Tryz.func19, Tryz.ntmps19
 go_upto_region 3 with fail
 clear c0 c9 c10
 have HD := Lib.hid (show Below w.heap.size w w.drew from (Below.refl _ _).drew)
 have hS := fun {w' : World} (k : Below w.heap.size w w') => h.out.on k
 refine start_ (n := 11) (S := fun w' => w'.cell? ⟨Z, 0, none⟩ = some (.pointer (some ⟨R, 0, none⟩)) ∧ w'.heap[Z]? = some (Obj.cells (sa ⟨Z, R, M, H, v, p⟩ o m s) 82 (0, 0))) (ds := []) (bzz 11 0) (by kernel_rfl) rfl rfl ⟨(hS HD.out).cs.1, (hS HD.out).blk⟩ (fun hHeld => ?_)
 refine rpz 0 9 ?_ (bzz 11 1) rfl rfl ?_ ?_ ?_ ?_
 rotate_left
 ·intro w'
  go_simp
  with_reducible rfl
 rotate_left
 ·simp only [zaP, zsA, zsZ, zsS, i64_w, i32_w]
  rfl
 refine rpz 1 10 ?_ (bzz 11 3) rfl rfl ?_ ?_ ?_ ?_
 rotate_left
 ·intro w'
  go_simp
  with_reducible rfl
 rotate_left
 ·simp only [zaP, zsA, zsZ, zsS, i64_w, i32_w]
  rfl
 refine rpz 2 11 ?_ (bzz 11 7) rfl rfl ?_ ?_ ?_ ?_
 rotate_left
 ·intro w'
  go_simp
  with_reducible rfl
 rotate_left
 ·simp only [zaP, zsA, zsZ, zsS, i64_w, i32_w]
  rfl
 refine rpz 4 13 ?_ (bzz 11 23) rfl rfl ?_ ?_ ?_ ?_
 rotate_left
 ·intro w'
  go_simp
  with_reducible rfl
 rotate_left
 ·simp only [zaP, zsA, zsZ, zsS, i64_w, i32_w]
  rfl
 refine rpz 5 14 ?_ (bzz 11 55) rfl rfl ?_ ?_ ?_ ?_
 rotate_left
 ·intro w'
  go_simp
  with_reducible rfl
 rotate_left
 ·simp only [zaP, zsA, zsZ, zsS, i64_w, i32_w]
  rfl
 refine rpz 6 15 ?_ (bzz 11 119) rfl rfl ?_ ?_ ?_ ?_
 rotate_left
 ·intro w'
  go_simp
  with_reducible rfl
 rotate_left
 ·simp only [zaP, zsA, zsZ, zsS, i64_w, i32_w]
  rfl
 refine rtz 3 12 ?_ (bzz 11 127) rfl rfl hHeld ?_ ?_ ?_ ?_
 rotate_left
 ·rintro w' ⟨s0, s1⟩
  refine (exec_loadMS (q := ⟨Z, R, M, H, v, p⟩) (x := .tmp 11) ?_ ?_  s1).trans ?_
  ·rfl
  ·rfl
  ·with_reducible rfl
 rotate_left
 ·simp only [zaP, zsA, zsZ, zsS, i64_w, i32_w]
  rfl
 refine rtz 7 16 ?_ (bzz 11 255) rfl rfl hHeld ?_ ?_ ?_ ?_
 rotate_left
 ·rintro w' ⟨s0, s1⟩
  go_simp
  with_reducible rfl
 rotate_left
 ·simp only [zaP, zsA, zsZ, zsS, i64_w, i32_w]
  rfl
 refine roz 8 17 (bzz 11 511) rfl rfl (fun K hK => ?_)
 refine goes_ Tryz.func39 (by kernel_rfl) rfl #[.pointer (some ⟨R, 0, none⟩)] (by rfl) rfl rfl (by simp only [List.map_toArray, List.map_cons, List.map_nil]; rfl) ?_
 with_reducible refine (Dk.size_c _ R M v s.d (Lib.hid (hS HD.out).dsk)).mono ?_
 rintro e w20 ⟨rfl, hd⟩
 refine ⟨_, rfl, ?_⟩
 have Hw20 := Lib.hid (HD.out.trans (hd.mono HD.out.size))
 clear hd
 rw [HN.out]
 refine hK.out _ _ ⟨(hS Hw20.out).cs.1, (hS Hw20.out).blk⟩ (fun hHeld => ?_)
 clear hK K
 refine norm_ (a' := ?_) ?_ ?_
 rotate_left
 ·show Act.put _ (some 17) _ = _
  simp only [zaP, zsA, zsZ, zsS, i64_w, i32_w]
  rfl
 refine roz 9 18 (bzz 11 1023) rfl rfl (fun K hK => ?_)
 refine goes_ Tryz.func46 (by kernel_rfl) rfl #[.agg (o.a m), .int .i64 N] (by rfl) rfl rfl (by simp only [List.map_toArray, List.map_cons, List.map_nil]; rfl) ?_
 with_reducible refine (used_R o m N _ (Lib.hid (hS Hw20.out).at) hm hr hR).mono ?_
 rintro e w21 ⟨u, rfl, hu, hd⟩
 refine ⟨_, rfl, ?_⟩
 rw [HU.out] at hu
 have HV := Lib.hid (And.intro (Kd.R_lower hu Hw20.out.size) (Hw20.out.trans (hd.mono Hw20.out.size)))
 clear hu hd
 refine hK.out _ _ ⟨(hS HV.out.2).cs.1, (hS HV.out.2).blk⟩ (fun hHeld => ?_)
 clear hK K
 refine norm_ (a' := ?_) ?_ ?_
 rotate_left
 ·show Act.put _ (some 18) _ = _
  simp only [zaP, zsA, zsZ, zsS, i64_w, i32_w]
  rfl
 refine rpz 10 3 ?_ (bzz 11 2047) rfl rfl ?_ ?_ ?_ ?_
 rotate_left
 ·intro w'
  go_simp
  with_reducible rfl
 rotate_left
 ·simp only [zaP, zsA, zsZ, zsS, i64_w, i32_w]
  rfl
 refine done_ (by kernel_rfl) ?_
 have H3 := Lib.hid (hS HV.out.2)
 have HR3 := Lib.hid HV.out.1
 have HB3 := Lib.hid HV.out.2
 clear HV HD hS hHeld
 generalize w21 = w3 at *
 go_wp2_with (first | (refine wl_loadOS ⟨Z, R, M, H, v, p⟩ o m s H3.out.blk rfl _ rfl rfl ?_))
 refine (taken_c u U s.own w w3 HB3.out HR3.out (by have := HB.out s.own (by simp); omega)).mono ?_
 rintro e w4 ⟨rfl, h4, hb4, _⟩
 have H4 := Lib.hid (h.out.on hb4)
 have HR4 := Lib.hid h4
 have HB4 := Lib.hid hb4
 clear h4 hb4 H3 HR3 HB3
 have c9 := H4.out.cs.2.2.1
 have HP4 := Lib.hid H4.out.put
 obtain ⟨P, PC, rfl⟩ := Kd.R_slice HP4.out
 obtain ⟨n, hn⟩ : ∃ n, s.put.length = n := ⟨_, rfl⟩
 rw [hn] at c9 hl
 have HNn := Lib.hid hn
 clear hn
 go_wp2_with fail
 go_loopg [30] n (fun kq v30 wr => ∃ i : Nat, v30 = .int .i64 (i : Int) ∧ kq + i = n ∧ Hid (Kd.R Kd.bool 4 wr w.heap.size (fun _ => True) u (markAll U (s.own :: s.put.take i))) ∧ Hid (Below w.heap.size w wr))
 case atStart => exact ⟨0, rfl, rfl, HR4, HB4⟩
 case round =>
  clear HR4 HB4 HP4 H4 c9
  obtain ⟨i, rfl, hk, HR, HBl⟩ := hrel
  generalize wr = w5 at *
  have H5 := Lib.hid (h.out.on HBl.out)
  cases gk with
  | zero =>
   have hin : i = n := by omega
   have c1 : decide ((i : Int) < (n : Int)) = false := decide_eq_false (by omega)
   have c1b : decide (i < n) = false := decide_eq_false (by omega)
   have HR6 := Lib.hid (show Kd.R Kd.bool 4 w5 w.heap.size (fun _ => True) u (markAll U (s.own :: s.put)) by
    have := HR.out
    rw [List.take_of_length_le (by rw [HNn.out]; omega)] at this
    exact this)
   clear HR hk hin
   have c10 := H5.out.cs.2.2.2
   obtain ⟨es, clock, hes, hin⟩ := H5.out.held
   have HI := Lib.hid hin
   have HE := Lib.hid hes
   clear hin hes
   go_wp2_with (first | (refine wl_rangeH H es clock HE.out rfl _ rfl rfl ?_))
   have hb7 : Below w5.heap.size w5 (w5.alloc (.mapIter (some H) clock #[] clock)) := (Below.refl _ _).alloc (Nat.le_refl _) _
   have HX := Lib.hid (heap_alloc_last w5 (.mapIter (some H) clock #[] clock))
   have HR7 := Lib.hid (Kd.R_below HR6.out hb7)
   have HB7 := below_to HBl (Nat.le_refl _) hb7
   have HE7 := blk_to HE hb7
   have hIw : w.heap.size ≤ w5.heap.size := HBl.out.size
   obtain ⟨I, hI⟩ : ∃ I, w5.heap.size = I := ⟨_, rfl⟩
   rw [hI] at HX hIw
   simp only [hI]
   generalize (w5.alloc (.mapIter (some H) clock #[] clock)) = w7 at *
   clear hb7 hI HR6 HBl HE H5 c10 c1 c1b
   go_loopg [44] (leftOf es #[]).size (fun kq v44 wr => ∃ (seen : Array Nat) (l : List Rf) (c0 : Nat), (leftOf es seen).size ≤ kq ∧ clock ≤ c0 ∧ Hid (Came s.held es seen l) ∧ Hid (wr.heap[I]? = some (Obj.mapIter (some H) clock seen c0)) ∧ Hid (wr.heap[H]? = some (Obj.map es clock)) ∧ Hid (Kd.R Kd.bool 4 wr w.heap.size (fun _ => True) u (markAll U (s.own :: s.put ++ l))) ∧ Hid (Below w.heap.size w wr))
   case atStart => exact ⟨#[], [], clock, Nat.le_refl _, Nat.le_refl _, Lib.hid (Came.start _ _), HX, HE7, Lib.hid (by rw [List.append_nil]; exact HR7.out), HB7⟩
   case round =>
    clear HX HE7 HR7 HB7
    obtain ⟨seen, l, k0, hle, hk0, HC, HX, HE, HR, HBl⟩ := hrel
    generalize wr = w8 at *
    go_wp2_with (first | (refine wl_nextH I H s.held es clock k0 seen HI.out HX.out HE.out hk0 rfl _ rfl rfl ?_ ?_))
    ·intro h0
     have HR9 := Lib.hid (show Kd.R Kd.bool 4 w8 w.heap.size (fun _ => True) u (taken U s) by
      have e : markAll U (s.own :: s.put ++ l) = taken U s := markAll_same U (fun r => by
       have := HC.out.all HI.out (by rw [h0.out]; rfl) r
       simp only [List.cons_append, List.mem_cons, List.mem_append, keys]
       rw [this])
      rw [← e]; exact HR.out)
     clear h0 HC HX HE HR
     go_wp2_with fail
     go_ret
     exact ⟨u, rfl, HR9.out, HBl.out⟩
    ·intro e rk0 kc w9 hh9 hen
     obtain ⟨he0, hpr, hk, hM, hsz, hX⟩ := hh9.out
     have he : e ∈ (leftOf es seen).toList := by simpa using he0
     clear he0
     have HX9 := Lib.hid hX
     have HE9 := Lib.hid (hM.blk HE.out (fun (e : H = I) => by have := HX.out; rw [← e, HE.out] at this; cases this))
     have HR9 := Lib.hid (row_on rfl HR.out hM (fun b hb (e : b = I) => by
      obtain ⟨c, hc⟩ := Kd.R_typed HR.out b hb
      rw [e, HX.out] at hc
      cases hc))
     have HB9 := Lib.hid (HBl.out.trans (hM.below (B := w.heap.size) HBl.out.size (fun i hi (e : i = I) => by omega)))
     have HC9 := Lib.hid (HC.out.next HI.out (mem_left he).1 hk)
     have hlt := left_shrinks es seen e he
     have HBk := Lib.hid (HB.out rk0 (by
      simp only [List.cons_append, List.mem_cons, List.mem_append, keys, List.mem_map]
      exact .inr (.inr ⟨(rk0, kc), hpr, rfl⟩)))
     clear he hpr hk hM hsz hX HC HX HE HR HBl hh9
     cases gk with
     | zero => omega
     | succ k1 =>
      have hle2 : (leftOf es (seen.push e.born)).size ≤ k1 := by omega
      clear hle hlt
      go_upto_region 13 with (first
       | (refine wl_allocR rfl rfl ?_)
       | (refine wl_storeRn #[.int .i64 0, .int .i64 0, .int .u32 0] rfl rk0 rfl _ _ rfl rfl rfl ?_))
      have hb10 : Below w9.heap.size w9 (w9.alloc (Obj.cells (ra rk0) 36 (0, 0))) := (Below.refl _ _).alloc (Nat.le_refl _) _
      have HK10 := Lib.hid (heap_alloc_last w9 (Obj.cells (ra rk0) 36 (0, 0)))
      have HX10 := blk_to HX9 hb10
      have HE10 := blk_to HE9 hb10
      have HR10 := Lib.hid (Kd.R_below HR9.out hb10)
      have HB10 := below_to HB9 (Nat.le_refl _) hb10
      obtain ⟨K, hK⟩ : ∃ K, w9.heap.size = K := ⟨_, rfl⟩
      rw [hK] at HK10
      simp only [hK]
      generalize (w9.alloc (Obj.cells (ra rk0) 36 (0, 0))) = w10 at *
      clear hb10 hK HX9 HE9 HR9 HB9 hen
      go_wp2_with (first | (refine wl_loadR K rk0 HK10.out rfl _ rfl rfl ?_))
      refine (taken_c u _ rk0 w w10 HB10.out HR10.out (by have := HBk.out; omega)).mono ?_
      rintro e2 w11 ⟨rfl, h4, hb4, hkp⟩
      rw [markAll_more] at h4
      have HR11 := Lib.hid (show Kd.R Kd.bool 4 w11 w.heap.size (fun _ => True) u (markAll U (s.own :: s.put ++ (l ++ [rk0]))) by
       have e3 : s.own :: s.put ++ (l ++ [rk0]) = s.own :: s.put ++ l ++ [rk0] := by simp
       rw [e3]; exact h4)
      have HB11 := Lib.hid hb4
      have HX11 := Lib.hid ((hkp.2 I (Err.lt_of_block HX10.out) (fun e => by
       obtain ⟨c, hc⟩ := Kd.R_typed HR10.out I e.symm
       rw [HX10.out] at hc; cases hc)).trans HX10.out)
      have HE11 := Lib.hid ((hkp.2 H (Err.lt_of_block HE10.out) (fun e => by
       obtain ⟨c, hc⟩ := Kd.R_typed HR10.out H e.symm
       rw [HE10.out] at hc; cases hc)).trans HE10.out)
      clear h4 hb4 hkp HX10 HE10 HR10 HB10 HK10
      go_wp2_with fail
      go_roundg k1
      case measure => exact Nat.lt_succ_self _
      case rel => exact ⟨seen.push e.born, l ++ [rk0], clock, hle2, Nat.le_refl _, HC9, HX11, HE11, HR11, HB11⟩
  | succ k1 =>
   have hin : i < n := by omega
   have hil : i < s.put.length := by rw [HNn.out]; exact hin
   have c1 : decide ((i : Int) < (n : Int)) = true := decide_eq_true (by omega)
   have c1b : decide (i < n) = true := decide_eq_true hin
   have p1 : (0 ≤ (i : Int)) = True := eq_true (by omega)
   have p2 : ((i : Int) < (n : Int)) = True := eq_true (by omega)
   have q5 : IntKind.i64.wrap ((i : Int) + 1) = (i : Int) + 1 := IntWalk.i64_in _ (by omega)
   obtain ⟨ad, ead, x0, x1, x2⟩ := at_T36 (Kd.R_reads' H5.out.put).2.2 (i : Int) (by omega) (by omega)
   subst ead
   obtain ⟨r, hr0⟩ : ∃ r, s.put[i] = r := ⟨_, rfl⟩
   have ex : rd_T36 s.put (i : Int) = r := by
    unfold rd_T36
    simp [List.getD_eq_getElem?_getD, List.getElem?_eq_getElem hil, hr0]
   rw [ex] at x0 x1 x2
   have hrm : 0 ≤ r.f0 ∧ r.f0 ≤ 1000000 := HB.out r (by
    simp only [List.cons_append, List.mem_cons, List.mem_append]
    exact .inr (.inl (hr0 ▸ List.getElem_mem hil)))
   have HT := Lib.hid (show s.put.take (i + 1) = s.put.take i ++ [r] by rw [List.take_add_one, List.getElem?_eq_getElem hil, hr0]; rfl)
   clear ex hr0
   go_upto_region 8 with (first
    | (refine wl_loadRf _ r x0 x1 x2 rfl _ rfl rfl ?_)
    | (refine wl_allocR rfl rfl ?_)
    | (refine wl_storeRn #[.int .i64 0, .int .i64 0, .int .u32 0] rfl r rfl _ _ rfl rfl rfl ?_))
   have hb6 : Below w5.heap.size w5 (w5.alloc (Obj.cells (ra r) 36 (0, 0))) := (Below.refl _ _).alloc (Nat.le_refl _) _
   have HK6 := Lib.hid (heap_alloc_last w5 (Obj.cells (ra r) 36 (0, 0)))
   have HR6 := Lib.hid (Kd.R_below HR.out hb6)
   have HB6 := below_to HBl (Nat.le_refl _) hb6
   obtain ⟨K, hK⟩ : ∃ K, w5.heap.size = K := ⟨_, rfl⟩
   rw [hK] at HK6
   simp only [hK]
   generalize (w5.alloc (Obj.cells (ra r) 36 (0, 0))) = w6 at *
   clear hb6 hK HR HBl H5 x0 x1 x2
   go_wp2_with (first | (refine wl_loadR K r HK6.out rfl _ rfl rfl ?_))
   refine (taken_c u _ r w w6 HB6.out HR6.out (by omega)).mono ?_
   rintro e w7 ⟨rfl, h4, hb4, _⟩
   rw [markAll_more] at h4
   have HR7 := Lib.hid (show Kd.R Kd.bool 4 w7 w.heap.size (fun _ => True) u (markAll U (s.own :: s.put.take (i + 1))) by
    rw [HT.out]; exact h4)
   have HB7 := Lib.hid hb4
   clear h4 hb4 HK6 HR6 HB6 HT
   go_wp2_with fail
   go_roundg k1
   case measure => exact Nat.lt_succ_self _
   case rel => exact ⟨i + 1, by simp, by omega, HR7, HB7⟩
end Go.Proofs.YtaodgnladjafoaaGreatDoor.Sto
