/- Several texts in one: words that the proof of the law uses. -/
import Derived.Test.YtaodgnladjafoaaGreatDoorWordsV
import Derived.Test.YtaodgnladjafoaaGreatDoorErr01V
import Derived.Test.YtaodgnladjafoaaGreatDoorQStoreLastsV
import Derived.MapKept
set_option linter.unusedVariables false
set_option linter.unusedSimpArgs false
namespace Go.Proofs.YtaodgnladjafoaaGreatDoor.Mni
open Go.RowKit Go.Proofs.YtaodgnladjafoaaGreatDoorW.PrintWords Go.Proofs.YtaodgnladjafoaaGreatDoorW.PrintLast Go.Proofs.YtaodgnladjafoaaGreatDoorW.PrintMore Go.Proofs.YtaodgnladjafoaaGreatDoor.Md
def MapAt (w : World) (M : Nat) (F : Int → Bool) : Prop := ∃ es clock, w.heap[M]? = some (Obj.map es clock) ∧ (∀ e ∈ es.toList, ∃ k, e.key = .int .i64 k ∧ e.val = .bool (F k)) ∧ (∀ k, (∀ e ∈ es.toList, e.key ≠ .int .i64 k) → F k = false) ∧
  (∀ (i j : Nat) e f, es.toList[i]? = some e → es.toList[j]? = some f → e.key = f.key → i = j)
theorem MapAt.mod {w w' : World} {M : Nat} {F : Int → Bool} {S : Nat → Prop} (h : MapAt w M F) (k : Mod S w w') (hn : ¬ S M) : MapAt w' M F := by
  obtain ⟨es, clock, h1, h2⟩ := h
  exact ⟨es, clock, k.blk h1 hn, h2⟩
theorem isKey (k : Int) : MapKept.IsKey (.int .i64) (.int .i64 k) := by simp [MapKept.IsKey]
theorem keys_of {w : World} {F : Int → Bool} {es : Array MapEntry} (h : ∀ e ∈ es.toList, ∃ k, e.key = .int .i64 k ∧ e.val = .bool (F k)) : ∀ x ∈ es.toList, MapKept.IsKey (.int .i64) x.key := by
  intro x hx
  obtain ⟨k, hk, _⟩ := h x hx
  rw [hk]; exact isKey k
theorem look (w : World) (M : Nat) (F : Int → Bool) (k : Int) (h : MapAt w M F) : (Instr.lookup 148 (.map (some M)) (.int .i64 k) false).run Tryz.prog w = .ok (.bool (F k)) w := by
  obtain ⟨es, clock, h1, h2, h3, h4⟩ := h
  have hc : (Instr.checkKey es.isEmpty 10000 3 (.int .i64 k)).run Tryz.prog w = .ok () w := MapKept.run_checkKey Tryz.underlying3 (isKey k) _ 9999
  rcases MapKept.findNow_spec (isKey k) es.toList 0 (keys_of (w := w) h2) with ⟨g1, g2⟩ | ⟨j, e, g1, g2, g3⟩
  · simp [Instr.lookup, run_underlying Tryz.underlying148, MapKept.run_getObj_map h1, hc, MapKept.run_findKey Tryz.underlying3 g1, Result.andThen, h3 k g2]
  · obtain ⟨a, ha, hv⟩ := h2 e (List.mem_of_getElem? g2)
    have : a = k := by rw [g3] at ha; simp at ha; exact ha.symm
    subst this
    simp [Instr.lookup, run_underlying Tryz.underlying148, MapKept.run_getObj_map h1, hc, MapKept.run_findKey Tryz.underlying3 g1, Result.andThen, hv]
def upd (F : Int → Bool) (k : Int) (p : Bool) : Int → Bool := fun a => if a = k then p else F a
theorem mod_setObj {w : World} {M : Nat} {o : Obj} : Mod (· = M) w { w with heap := w.heap.setIfInBounds M o } :=
  ⟨rfl, rfl, rfl, by simp, fun k hk hs => by simp; rw [Array.getElem?_setIfInBounds_ne (fun e => hs e.symm)]⟩
theorem store (w : World) (M : Nat) (F : Int → Bool) (k : Int) (p : Bool) (h : MapAt w M F) : ∃ w', (Instr.mapUpdate 148 (.map (some M)) (.int .i64 k) (.bool p)).run Tryz.prog w = .ok () w' ∧ MapAt w' M (upd F k p) ∧ Mod (· = M) w w' := by
  obtain ⟨es, clock, h1, h2, h3, h4⟩ := h
  have hlt := Err.lt_of_block h1
  have hc : (Instr.checkKey false 10000 3 (.int .i64 k)).run Tryz.prog w = .ok () w := MapKept.run_checkKey Tryz.underlying3 (isKey k) _ 9999
  rcases MapKept.findNow_spec (isKey k) es.toList 0 (keys_of (w := w) h2) with ⟨g1, g2⟩ | ⟨j, e, g1, g2, g3⟩
  · refine ⟨{ w with heap := w.heap.setIfInBounds M (.map (es.push { key := .int .i64 k, val := .bool p, born := clock }) (clock + 1)) }, by simp [Instr.mapUpdate, run_underlying Tryz.underlying148, MapKept.run_getObj_map h1, hc, MapKept.run_findKey Tryz.underlying3 g1, MapKept.run_setObj_map _ h1, Result.andThen], ?_, mod_setObj⟩
    refine ⟨es.push { key := .int .i64 k, val := .bool p, born := clock }, clock + 1, by simp [hlt], ?_, ?_, ?_⟩
    · intro e he
      simp at he
      rcases he with he | rfl
      · obtain ⟨a, ha, hv⟩ := h2 e (by simpa using he)
        refine ⟨a, ha, ?_⟩
        have hne : a ≠ k := fun hh => g2 e (by simpa using he) (by rw [ha, hh])
        simp [upd, hne, hv]
      · exact ⟨k, rfl, by simp [upd]⟩
    · intro a ha
      have hak : a ≠ k := fun hh => by
        subst hh
        exact ha { key := .int .i64 a, val := .bool p, born := clock } (by simp) rfl
      have := h3 a (fun e he => ha e (by simp; left; simpa using he))
      simp [upd, hak, this]
    · intro a b x y hx hy hk
      simp only [Array.toList_push] at hx hy
      rw [List.getElem?_append] at hx hy
      split at hx <;> split at hy
      · exact h4 a b x y hx hy hk
      · rename_i l1 l2
        have hy' : y = { key := .int .i64 k, val := .bool p, born := clock } := by
          have : b - es.toList.length = 0 := by
            rcases hz : b - es.toList.length with _ | n
            · rfl
            · rw [hz] at hy; simp at hy
          rw [this] at hy; simpa using hy.symm
        exact absurd (hk.trans (by rw [hy'])) (g2 x (List.mem_of_getElem? hx))
      · rename_i l1 l2
        have hx' : x = { key := .int .i64 k, val := .bool p, born := clock } := by
          have : a - es.toList.length = 0 := by
            rcases hz : a - es.toList.length with _ | n
            · rfl
            · rw [hz] at hx; simp at hx
          rw [this] at hx; simpa using hx.symm
        exact absurd (hk.symm.trans (by rw [hx'])) (g2 y (List.mem_of_getElem? hy))
      · rename_i l1 l2
        have e1 : a - es.toList.length = 0 := by
          rcases hz : a - es.toList.length with _ | n
          · rfl
          · rw [hz] at hx; simp at hx
        have e2 : b - es.toList.length = 0 := by
          rcases hz : b - es.toList.length with _ | n
          · rfl
          · rw [hz] at hy; simp at hy
        omega
  · have hj : j < es.toList.length := (List.getElem?_eq_some_iff.1 g2).1
    have hej : es[j]? = some e := by simpa using g2
    refine ⟨{ w with heap := w.heap.setIfInBounds M (.map (es.modify j fun e => { e with key := .int .i64 k, val := .bool p }) clock) }, by simp [Instr.mapUpdate, run_underlying Tryz.underlying148, MapKept.run_getObj_map h1, hc, MapKept.run_findKey Tryz.underlying3 g1, hej, g3, MapKept.run_keyThatStays (isKey k), MapKept.run_setObj_map _ h1, Result.andThen], ?_, mod_setObj⟩
    have hget : ∀ (i : Nat) x, (es.modify j fun e => { e with key := .int .i64 k, val := .bool p }).toList[i]? = some x → (i = j ∧ x.key = .int .i64 k ∧ x.val = .bool p) ∨ (i ≠ j ∧ es.toList[i]? = some x) := by
      intro i x hx
      rw [Array.getElem?_toList, Array.getElem?_modify] at hx
      by_cases hij : j = i
      · subst hij
        simp [hej] at hx
        subst hx
        exact .inl ⟨rfl, rfl, rfl⟩
      · simp [hij] at hx
        exact .inr ⟨fun e => hij e.symm, by simpa using hx⟩
    refine ⟨es.modify j fun e => { e with key := .int .i64 k, val := .bool p }, clock, by simp [hlt], ?_, ?_, ?_⟩
    · intro x hx
      obtain ⟨i, hi⟩ := List.getElem?_of_mem hx
      rcases hget i x hi with ⟨_, q1, q2⟩ | ⟨q1, q2⟩
      · exact ⟨k, q1, by simp [upd, q2]⟩
      · obtain ⟨a, ha, hv⟩ := h2 x (List.mem_of_getElem? q2)
        have hne : a ≠ k := fun hh => q1 (h4 i j x e q2 g2 (by rw [ha, g3, hh]))
        exact ⟨a, ha, by simp [upd, hne, hv]⟩
    · intro a ha
      have hak : a ≠ k := fun hh => by
        subst hh
        have hm : (es.modify j fun e => { e with key := .int .i64 a, val := .bool p }).toList[j]? = some { e with key := .int .i64 a, val := .bool p } := by
          rw [Array.getElem?_toList, Array.getElem?_modify]; simp [hej]
        exact ha _ (List.mem_of_getElem? hm) rfl
      have := h3 a (fun x hx => by
        obtain ⟨i, hi⟩ := List.getElem?_of_mem hx
        by_cases hij : i = j
        · subst hij
          rw [g2] at hi
          cases hi
          rw [g3]; intro hh; simp at hh; exact hak hh.symm
        · refine ha x (List.mem_of_getElem? (i := i) ?_)
          rw [Array.getElem?_toList, Array.getElem?_modify]
          simp [show ¬ j = i from fun e => hij e.symm]
          simpa using hi)
      simp [upd, hak, this]
    · intro a b x y hx hy hk
      rcases hget a x hx with ⟨q1, q2, _⟩ | ⟨q1, q2⟩ <;> rcases hget b y hy with ⟨r1, r2, _⟩ | ⟨r1, r2⟩
      · omega
      · exact absurd (h4 b j y e r2 g2 (by rw [← hk, q2, g3])) r1
      · exact absurd (h4 a j x e q2 g2 (by rw [hk, r2, g3])) q1
      · exact h4 a b x y q2 r2 hk
theorem MapAt.new (w : World) : MapAt (w.alloc (Obj.map #[] 0)) w.heap.size (fun _ => false) :=
  ⟨#[], 0, heap_alloc_new _ _, fun e he => by simp at he, fun k _ => rfl, fun i j e f he => by simp at he⟩
section
variable {ops : Array Oper} {rest : List Oper} {o : Oper} {a : Go.Act} {w : World} {Q : Exit → Go.Act → World → Prop}
theorem wg_lookB (M : Nat) (F : Int → Bool) (k : Int) (hm : MapAt w M F) (hw : Region.wanted o (yielded ops a.tmps) = true) (x y : Operand) (ho : o.op = .lookup 148 x y false) (hx : a.eval x = .map (some M)) (hy : a.eval y = .int .i64 k)
    (h : wpList Tryz.prog ops Q rest (a.put o.dst (.bool (F k))) w) : wpList Tryz.prog ops Q (o :: rest) a w := by
  have hr : (execOp a.eval o).run Tryz.prog w = .ok (.value (.bool (F k))) w := by
    unfold execOp; simp only [ho, hx, hy, look w M F k hm, Sem.run_bind, Sem.run_pure, Result.andThen_ok]
  exact BigFrame.wpList_want hw fun K hK => by
    unfold Oper.wp
    rw [hr]
    exact hK _ _ h
theorem wl_updB (M : Nat) (F : Int → Bool) (k : Int) (p : Bool) (hm : MapAt w M F) (hgd : o.guard = none) (x y z : Operand) (ho : o.op = .mapUpdate 148 x y z) (hx : a.eval x = .map (some M)) (hy : a.eval y = .int .i64 k) (hz : a.eval z = .bool p)
    (h : ∀ w', MapAt w' M (upd F k p) → Mod (· = M) w w' → wpList Tryz.prog ops Q rest (a.put o.dst undef) w') : wpList Tryz.prog ops Q (o :: rest) a w :=
  wpList_plain hgd fun K hK => by
    obtain ⟨w', hr, h1, h2⟩ := store w M F k p hm
    unfold Oper.wp execOp
    simp only [ho, hx, hy, hz, hr, Sem.run_bind, Sem.run_pure, Result.andThen_ok]
    exact hK _ _ (h w' h1 h2)
end
end Go.Proofs.YtaodgnladjafoaaGreatDoor.Mni
namespace Go.Proofs.YtaodgnladjafoaaGreatDoor.Mni
open Go.RowKit Go.Proofs.YtaodgnladjafoaaGreatDoorW.PrintWords Go.Proofs.YtaodgnladjafoaaGreatDoorW.PrintLast Go.Proofs.YtaodgnladjafoaaGreatDoorW.PrintMore Go.Proofs.YtaodgnladjafoaaGreatDoor.Md Go.Proofs.YtaodgnladjafoaaGreatDoor.QStoreLasts
abbrev Rf := S36
abbrev rk : Kd Rf := k36
abbrev lk : Kd (List Int) := Kd.slice 3 (Kd.int .i64)
structure Man where
  refs : List Rf
  stack : List Int
  upper : Int
  snaps : List (List Int)
structure Loc where
  p0 : Option Addr
  c0 : Nat
  p1 : Option Addr
  c1 : Nat
  p3 : Option Addr
  c3 : Nat
def Loc.a (o : Loc) (m : Man) : Array Value := #[.slice o.p0 m.refs.length o.c0, .slice o.p1 m.stack.length o.c1, .int .i64 m.upper, .slice o.p3 m.snaps.length o.c3]
structure At (w : World) (o : Loc) (m : Man) : Prop where
  r : Kd.C rk w o.p0 m.refs.length m.refs
  rc : m.refs.length ≤ o.c0
  s : Kd.C (Kd.int .i64) w o.p1 m.stack.length m.stack
  sc : m.stack.length ≤ o.c1
  n : Kd.C lk w o.p3 m.snaps.length m.snaps
  nc : m.snaps.length ≤ o.c3
theorem At.on {w w' : World} {o : Loc} {m : Man} (h : At w o m) (k : Below w.heap.size w w') : At w' o m :=
  ⟨Kd.C_below h.r k, h.rc, Kd.C_below h.s k, h.sc, Kd.C_below h.n k, h.nc⟩
theorem foot {α : Type} {d : Kd α} {w : World} {A : Option Addr} {n : Nat} {xs : List α} (h : d.C w A n xs) (hd : ∀ (w1 : World) (H : Array Obj), d.C { w1 with heap := H } A n xs → ∀ w2 : World, w2.heap = H → d.C w2 A n xs) : Kd.F d w (fun _ => True) A n xs := by
  intro w2 h2
  have hs : w.heap.size ≤ w2.heap.size := by
    rcases Nat.eq_zero_or_pos w.heap.size with e | e
    · omega
    · have z := h2 (w.heap.size - 1) trivial (by omega)
      rw [Array.getElem?_eq_getElem (show w.heap.size - 1 < w.heap.size by omega)] at z
      have := (Array.getElem?_eq_some_iff.1 z).1
      omega
  refine hd w w2.heap (Kd.C_below h ⟨rfl, rfl, rfl, hs, fun k hk => h2 k trivial hk⟩) w2 rfl
theorem foot_int {w : World} {A : Option Addr} {n : Nat} {xs : List Int} (h : (Kd.int .i64).C w A n xs) : Kd.F (Kd.int .i64) w (fun _ => True) A n xs :=
  foot h (fun w1 H h1 w2 e => by subst e; exact h1)
theorem foot_lk {w : World} {A : Option Addr} {n : Nat} {xs : List (List Int)} (h : lk.C w A n xs) : Kd.F lk w (fun _ => True) A n xs :=
  foot h (fun w1 H h1 w2 e => by subst e; exact h1)
def stacks (m : Man) : List (List Int) := m.stack :: ((if m.upper = -1 then [] else [[m.upper]]) ++ m.snaps)
theorem stacks_f (m : Man) (h : m.snaps.length ≤ 1000000) : mani_Manifest_stacks.f m.refs m.stack m.upper m.snaps = some (stacks m) := by
  unfold mani_Manifest_stacks.f stacks
  simp only [Option.bind_some, List.length_singleton]
  by_cases e : m.upper = -1
  · rw [if_pos e, if_pos e, if_pos (by omega)]
    rfl
  · rw [if_neg e, if_neg e, if_pos (by omega), List.length_append, List.length_singleton, List.length_singleton, if_pos (by omega)]
    rfl
theorem below_to {B : Nat} {w w1 w2 : World} (h : Hid (Below B w w1)) (hB : B ≤ w.heap.size) (k : Below w1.heap.size w1 w2) : Hid (Below B w w2) :=
  Lib.hid (h.out.trans (k.mono (Nat.le_trans hB h.out.size)))
theorem blk_to {w1 w2 : World} {k : Nat} {ob : Obj} (h : Hid (w1.heap[k]? = some ob)) (b : Below w1.heap.size w1 w2) : Hid (w2.heap[k]? = some ob) := Lib.hid ((b.block k (Err.lt_of_block h.out)).trans h.out)
theorem long_c (A : Option Addr) (n c : Nat) (w : World) : Calls Tryz.prog 79 #[.slice A n c] w fun e w' => e = .returned (.bool (decide (n > 9))) ∧ Below w.heap.size w w' := by
  have hd : decide ((n : Int) > 9) = decide (n > 9) := by
    by_cases h : n > 9
    · rw [decide_eq_true h, decide_eq_true (by omega)]
    · rw [decide_eq_false h, decide_eq_false (by omega)]
  go_enter Tryz.func79, Tryz.ntmps79
  go_wp2_with fail
  go_ret
  exact ⟨by simp, Below.refl _ _⟩
def anyLong (l : List (List Int)) : Bool := l.any (fun x => decide (x.length > 9))
theorem rd_L1_get (l : List (List Int)) (j : Nat) (h : j < l.length) : rd_L1 l (j : Int) = l[j] := by
  unfold rd_L1
  simp [List.getD_eq_getElem?_getD, List.getElem?_eq_getElem h]
theorem anyLong_drop (l : List (List Int)) (j : Nat) (h : j < l.length) : anyLong (l.drop j) = (decide (l[j].length > 9) || anyLong (l.drop (j + 1))) := by
  rw [List.drop_eq_getElem_cons h]
  rfl
theorem index_c (A : Option Addr) (c : Nat) (l : List (List Int)) (w : World) (hl : l.length ≤ 1000000) (hc : l.length ≤ c) (h : Hid (Kd.C lk w A l.length l)) :
    Calls Tryz.prog 93 #[.slice A l.length c, .func (Fn.func 79) #[] #[]] w fun e w' => ∃ i : Int, e = .returned (.int .i64 i) ∧ (decide (i ≥ 0) = anyLong l) ∧ Below w.heap.size w w' := by
  obtain ⟨n, hn⟩ : ∃ n, l.length = n := ⟨_, rfl⟩
  have h' := h.out
  rw [hn] at h' hl hc
  have HC := Lib.hid h'
  have HN := Lib.hid hn
  rw [hn]
  clear h h' hn
  have HB0 := Lib.hid (Below.refl w.heap.size w)
  go_enter Tryz.func93, Tryz.ntmps93
  go_wp2_with fail
  go_loopg [8] n (fun kq v8 wr => ∃ (j : Nat), v8 = .int .i64 (j : Int) ∧ kq + j = n ∧ Hid (Below w.heap.size w wr) ∧ Hid (anyLong l = anyLong (l.drop j)))
  case atStart => exact ⟨0, rfl, rfl, HB0, Lib.hid rfl⟩
  case round =>
    clear HB0
    obtain ⟨j, rfl, hk, HB, HA⟩ := hrel
    cases gk with
    | zero =>
      have hj : j = n := by omega
      have c1 : decide ((j : Int) < (n : Int)) = false := decide_eq_false (by omega)
      have c1b : decide (j < n) = false := decide_eq_false (by omega)
      have HJ := Lib.hid hj
      clear hk hj
      go_wp2_with fail
      go_ret
      refine ⟨-1, rfl, ?_, HB.out⟩
      rw [HA.out, HJ.out, ← HN.out, List.drop_length]
      rfl
    | succ k1 =>
      have hj : j < n := by omega
      have hjl : j < l.length := by rw [HN.out]; exact hj
      have c1 : decide ((j : Int) < (n : Int)) = true := decide_eq_true (by omega)
      have c1b : decide (j < n) = true := decide_eq_true hj
      have p1 : (0 ≤ (j : Int)) = True := eq_true (by omega)
      have p2 : ((j : Int) < (n : Int)) = True := eq_true (by omega)
      have q5 : IntKind.i64.wrap ((j : Int) + 1) = (j : Int) + 1 := IntWalk.i64_in _ (by omega)
      obtain ⟨ad, A0, c0, rfl, hcell, _, _⟩ := at_L1 (Kd.C_below HC.out HB.out) (j : Int) (by omega) (by omega)
      rw [rd_L1_get l j hjl] at hcell
      obtain ⟨q, hq⟩ : ∃ q, l[j].length = q := ⟨_, rfl⟩
      rw [hq] at hcell
      have HQ := Lib.hid hq
      simp only [Int.toNat_natCast] at hcell
      clear hq
      have HA2 := Lib.hid (HA.out.trans (anyLong_drop l j hjl))
      clear HA
      go_wp2_with fail
      refine (long_c A0 q c0 wr).mono ?_
      rintro e w2 ⟨rfl, hd⟩
      have HB2 := below_to HB (Nat.le_refl _) hd
      clear hd hcell HB
      by_cases hg : q > 9
      · have d1 : decide (q > 9) = true := decide_eq_true hg
        have HA3 := Lib.hid (show anyLong l = true by rw [HA2.out, HQ.out, d1]; rfl)
        rw [d1]
        clear HA2 HQ hg d1
        go_wp2_with fail
        go_ret
        refine ⟨(j : Int), rfl, ?_, HB2.out⟩
        rw [HA3.out, decide_eq_true (by omega)]
      · have d1 : decide (q > 9) = false := decide_eq_false hg
        have HA3 := Lib.hid (show anyLong l = anyLong (l.drop (j + 1)) by rw [HA2.out, HQ.out, d1]; rfl)
        rw [d1]
        clear HA2 HQ hg d1
        go_wp2_with fail
        go_roundg k1
        case measure => exact Nat.lt_succ_self _
        case rel => exact ⟨j + 1, by simp, by omega, HB2, HA3⟩
theorem containsF_c (A : Option Addr) (c : Nat) (l : List (List Int)) (w : World) (hl : l.length ≤ 1000000) (hc : l.length ≤ c) (h : Hid (Kd.C lk w A l.length l)) :
    Calls Tryz.prog 80 #[.slice A l.length c, .func (Fn.func 79) #[] #[]] w fun e w' => e = .returned (.bool (anyLong l)) ∧ Below w.heap.size w w' := by
  obtain ⟨b, hb⟩ : ∃ b, anyLong l = b := ⟨_, rfl⟩
  have HBb := Lib.hid hb
  rw [hb]
  clear hb
  go_enter Tryz.func80, Tryz.ntmps80
  go_wp2_with fail
  refine (index_c A c l w hl hc h).mono ?_
  rintro e w2 ⟨i, rfl, hi, hd⟩
  have HI := Lib.hid hi
  clear hi
  by_cases h0 : i ≥ 0
  · have d1 : decide (i ≥ 0) = true := decide_eq_true h0
    have d2 : decide (0 ≤ i) = true := decide_eq_true h0
    obtain rfl : b = true := by rw [← HBb.out, ← HI.out, d1]
    clear HI HBb
    go_wp2_with fail
    go_ret
    exact ⟨rfl, hd⟩
  · have d1 : decide (i ≥ 0) = false := decide_eq_false h0
    have d2 : decide (0 ≤ i) = false := decide_eq_false h0
    obtain rfl : b = false := by rw [← HBb.out, ← HI.out, d1]
    clear HI HBb
    go_wp2_with fail
    go_ret
    exact ⟨rfl, hd⟩
def sizedB (m : Man) : Bool := decide (m.refs.length ≤ 64 ∧ m.stack.length ≤ 8 ∧ m.snaps.length ≤ 16 ∧ -1 ≤ m.upper) && !anyLong m.snaps
theorem sized_c (o : Loc) (m : Man) (w : World) (h : Hid (At w o m)) (hm : m.snaps.length ≤ 1000000) :
    Calls Tryz.prog 52 #[.agg (o.a m)] w fun e w' => e = .returned (.bool (sizedB m)) ∧ Below w.heap.size w w' := by
  have hd0 : Below w.heap.size w (w.alloc (Obj.cells (o.a m) 43 (0, 0))) := (Below.refl _ _).alloc (Nat.le_refl _) _
  have H1 := Lib.hid (h.out.on hd0)
  have HB1 := Lib.hid hd0
  clear hd0
  unfold Loc.a at H1 HB1 ⊢
  obtain ⟨b, hb⟩ : ∃ b, sizedB m = b := ⟨_, rfl⟩
  have HBb := Lib.hid hb
  rw [hb]
  clear hb
  go_enter Tryz.func52, Tryz.ntmps52
  go_wp2_with fail
  · generalize (w.alloc (Obj.cells #[.slice o.p0 m.refs.length o.c0, .slice o.p1 m.stack.length o.c1, .int .i64 m.upper, .slice o.p3 m.snaps.length o.c3] 43 (0, 0))) = w1 at *
    refine (containsF_c o.p3 o.c3 m.snaps w1 hm H1.out.nc (Lib.hid H1.out.n)).mono ?_
    rintro e w2 ⟨rfl, hd⟩
    have HB2 := below_to HB1 (Nat.le_refl _) hd
    obtain ⟨q, hq⟩ : ∃ q, anyLong m.snaps = q := ⟨_, rfl⟩
    obtain rfl : b = !q := by rw [← HBb.out, ← hq]; unfold sizedB; rw [decide_eq_true ⟨by omega, by omega, by omega, by omega⟩, Bool.true_and]
    rw [hq]
    clear hq hd H1 HB1 HBb
    cases q
    · go_wp2_with fail
      go_ret
      exact ⟨rfl, HB2.out⟩
    · go_wp2_with fail
      go_ret
      exact ⟨rfl, HB2.out⟩
  all_goals
    obtain rfl : b = false := by rw [← HBb.out]; unfold sizedB; rw [decide_eq_false (by omega), Bool.false_and]
    go_ret
    exact ⟨rfl, HB1.out⟩
end Go.Proofs.YtaodgnladjafoaaGreatDoor.Mni
