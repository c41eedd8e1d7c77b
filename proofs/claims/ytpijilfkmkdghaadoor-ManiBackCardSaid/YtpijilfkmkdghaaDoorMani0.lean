/- A map of numbers to truth values in memory. -/
import Derived.Test.YtpijilfkmkdghaaDoorMod
import Derived.Test.YtpijilfkmkdghaaDoorErr1
import Derived.MapKept
import Derived.Test.YtpijilfkmkdghaaDoorQManiBack
set_option linter.unusedVariables false
set_option linter.unusedSimpArgs false
namespace Go.Proofs.YtpijilfkmkdghaaDoor.Mni
open Go.RowKit Go.Proofs.YtpijilfkmkdghaaDoorW.PrintWords Go.Proofs.YtpijilfkmkdghaaDoorW.PrintLast Go.Proofs.YtpijilfkmkdghaaDoorW.PrintMore Go.Proofs.YtpijilfkmkdghaaDoor.Md
def MapAt (w : World) (M : Nat) (F : Int → Bool) : Prop := ∃ es clock, w.heap[M]? = some (Obj.map es clock) ∧ (∀ e ∈ es.toList, ∃ k, e.key = .int .i64 k ∧ e.val = .bool (F k)) ∧ (∀ k, (∀ e ∈ es.toList, e.key ≠ .int .i64 k) → F k = false) ∧
  (∀ (i j : Nat) e f, es.toList[i]? = some e → es.toList[j]? = some f → e.key = f.key → i = j)
theorem MapAt.mod {w w' : World} {M : Nat} {F : Int → Bool} {S : Nat → Prop} (h : MapAt w M F) (k : Mod S w w') (hn : ¬ S M) : MapAt w' M F := by
  obtain ⟨es, clock, h1, h2⟩ := h
  exact ⟨es, clock, k.blk h1 hn, h2⟩
theorem MapAt.lt {w : World} {M : Nat} {F : Int → Bool} (h : MapAt w M F) : M < w.heap.size := by
  obtain ⟨es, clock, h1, h2⟩ := h
  exact Err.lt_of_block h1
theorem isKey (k : Int) : MapKept.IsKey (.int .i64) (.int .i64 k) := by simp [MapKept.IsKey]
theorem keys_of {w : World} {F : Int → Bool} {es : Array MapEntry} (h : ∀ e ∈ es.toList, ∃ k, e.key = .int .i64 k ∧ e.val = .bool (F k)) : ∀ x ∈ es.toList, MapKept.IsKey (.int .i64) x.key := by
  intro x hx
  obtain ⟨k, hk, _⟩ := h x hx
  rw [hk]; exact isKey k
theorem look (w : World) (M : Nat) (F : Int → Bool) (k : Int) (h : MapAt w M F) : (Instr.lookup 72 (.map (some M)) (.int .i64 k) false).run Tryd.prog w = .ok (.bool (F k)) w := by
  obtain ⟨es, clock, h1, h2, h3, h4⟩ := h
  have hc : (Instr.checkKey es.isEmpty 10000 3 (.int .i64 k)).run Tryd.prog w = .ok () w := MapKept.run_checkKey Tryd.underlying3 (isKey k) _ 9999
  rcases MapKept.findNow_spec (isKey k) es.toList 0 (keys_of (w := w) h2) with ⟨g1, g2⟩ | ⟨j, e, g1, g2, g3⟩
  · simp [Instr.lookup, run_underlying Tryd.underlying72, MapKept.run_getObj_map h1, hc, MapKept.run_findKey Tryd.underlying3 g1, Result.andThen, h3 k g2]
  · obtain ⟨a, ha, hv⟩ := h2 e (List.mem_of_getElem? g2)
    have : a = k := by rw [g3] at ha; simp at ha; exact ha.symm
    subst this
    simp [Instr.lookup, run_underlying Tryd.underlying72, MapKept.run_getObj_map h1, hc, MapKept.run_findKey Tryd.underlying3 g1, Result.andThen, hv]
def upd (F : Int → Bool) (k : Int) (p : Bool) : Int → Bool := fun a => if a = k then p else F a
theorem mod_setObj {w : World} {M : Nat} {o : Obj} : Mod (· = M) w { w with heap := w.heap.setIfInBounds M o } :=
  ⟨rfl, rfl, rfl, by simp, fun k hk hs => by simp; rw [Array.getElem?_setIfInBounds_ne (fun e => hs e.symm)]⟩
theorem store (w : World) (M : Nat) (F : Int → Bool) (k : Int) (p : Bool) (h : MapAt w M F) : ∃ w', (Instr.mapUpdate 72 (.map (some M)) (.int .i64 k) (.bool p)).run Tryd.prog w = .ok () w' ∧ MapAt w' M (upd F k p) ∧ Mod (· = M) w w' := by
  obtain ⟨es, clock, h1, h2, h3, h4⟩ := h
  have hlt := Err.lt_of_block h1
  have hc : (Instr.checkKey false 10000 3 (.int .i64 k)).run Tryd.prog w = .ok () w := MapKept.run_checkKey Tryd.underlying3 (isKey k) _ 9999
  rcases MapKept.findNow_spec (isKey k) es.toList 0 (keys_of (w := w) h2) with ⟨g1, g2⟩ | ⟨j, e, g1, g2, g3⟩
  · refine ⟨{ w with heap := w.heap.setIfInBounds M (.map (es.push { key := .int .i64 k, val := .bool p, born := clock }) (clock + 1)) }, by simp [Instr.mapUpdate, run_underlying Tryd.underlying72, MapKept.run_getObj_map h1, hc, MapKept.run_findKey Tryd.underlying3 g1, MapKept.run_setObj_map _ h1, Result.andThen], ?_, mod_setObj⟩
    refine ⟨es.push { key := .int .i64 k, val := .bool p, born := clock }, clock + 1, by simp [hlt], ?_, ?_, ?_⟩
    · intro e he
      simp at he
      rcases he with he | rfl
      · obtain ⟨a, ha, hv⟩ := h2 e (by simpa using he)
        refine ⟨a, ha, ?_⟩
        have hne : a ≠ k := fun hh => g2 e (by simpa using he) (by rw [ha, hh])
        simp [upd, hne, hv]
      · exact ⟨k, rfl, by simp [upd]⟩
    · intro a ha
      have hak : a ≠ k := fun hh => by
        subst hh
        exact ha { key := .int .i64 a, val := .bool p, born := clock } (by simp) rfl
      have := h3 a (fun e he => ha e (by simp; left; simpa using he))
      simp [upd, hak, this]
    · intro a b x y hx hy hk
      simp only [Array.toList_push] at hx hy
      rw [List.getElem?_append] at hx hy
      split at hx <;> split at hy
      · exact h4 a b x y hx hy hk
      · rename_i l1 l2
        have hy' : y = { key := .int .i64 k, val := .bool p, born := clock } := by
          have : b - es.toList.length = 0 := by
            rcases hz : b - es.toList.length with _ | n
            · rfl
            · rw [hz] at hy; simp at hy
          rw [this] at hy; simpa using hy.symm
        exact absurd (hk.trans (by rw [hy'])) (g2 x (List.mem_of_getElem? hx))
      · rename_i l1 l2
        have hx' : x = { key := .int .i64 k, val := .bool p, born := clock } := by
          have : a - es.toList.length = 0 := by
            rcases hz : a - es.toList.length with _ | n
            · rfl
            · rw [hz] at hx; simp at hx
          rw [this] at hx; simpa using hx.symm
        exact absurd (hk.symm.trans (by rw [hx'])) (g2 y (List.mem_of_getElem? hy))
      · rename_i l1 l2
        have e1 : a - es.toList.length = 0 := by
          rcases hz : a - es.toList.length with _ | n
          · rfl
          · rw [hz] at hx; simp at hx
        have e2 : b - es.toList.length = 0 := by
          rcases hz : b - es.toList.length with _ | n
          · rfl
          · rw [hz] at hy; simp at hy
        omega
  · have hj : j < es.toList.length := (List.getElem?_eq_some_iff.1 g2).1
    have hej : es[j]? = some e := by simpa using g2
    refine ⟨{ w with heap := w.heap.setIfInBounds M (.map (es.modify j fun e => { e with key := .int .i64 k, val := .bool p }) clock) }, by simp [Instr.mapUpdate, run_underlying Tryd.underlying72, MapKept.run_getObj_map h1, hc, MapKept.run_findKey Tryd.underlying3 g1, hej, g3, MapKept.run_keyThatStays (isKey k), MapKept.run_setObj_map _ h1, Result.andThen], ?_, mod_setObj⟩
    have hget : ∀ (i : Nat) x, (es.modify j fun e => { e with key := .int .i64 k, val := .bool p }).toList[i]? = some x → (i = j ∧ x.key = .int .i64 k ∧ x.val = .bool p) ∨ (i ≠ j ∧ es.toList[i]? = some x) := by
      intro i x hx
      rw [Array.getElem?_toList, Array.getElem?_modify] at hx
      by_cases hij : j = i
      · subst hij
        simp [hej] at hx
        subst hx
        exact .inl ⟨rfl, rfl, rfl⟩
      · simp [hij] at hx
        exact .inr ⟨fun e => hij e.symm, by simpa using hx⟩
    refine ⟨es.modify j fun e => { e with key := .int .i64 k, val := .bool p }, clock, by simp [hlt], ?_, ?_, ?_⟩
    · intro x hx
      obtain ⟨i, hi⟩ := List.getElem?_of_mem hx
      rcases hget i x hi with ⟨_, q1, q2⟩ | ⟨q1, q2⟩
      · exact ⟨k, q1, by simp [upd, q2]⟩
      · obtain ⟨a, ha, hv⟩ := h2 x (List.mem_of_getElem? q2)
        have hne : a ≠ k := fun hh => q1 (h4 i j x e q2 g2 (by rw [ha, g3, hh]))
        exact ⟨a, ha, by simp [upd, hne, hv]⟩
    · intro a ha
      have hak : a ≠ k := fun hh => by
        subst hh
        have hm : (es.modify j fun e => { e with key := .int .i64 a, val := .bool p }).toList[j]? = some { e with key := .int .i64 a, val := .bool p } := by
          rw [Array.getElem?_toList, Array.getElem?_modify]; simp [hej]
        exact ha _ (List.mem_of_getElem? hm) rfl
      have := h3 a (fun x hx => by
        obtain ⟨i, hi⟩ := List.getElem?_of_mem hx
        by_cases hij : i = j
        · subst hij
          rw [g2] at hi
          cases hi
          rw [g3]; intro hh; simp at hh; exact hak hh.symm
        · refine ha x (List.mem_of_getElem? (i := i) ?_)
          rw [Array.getElem?_toList, Array.getElem?_modify]
          simp [show ¬ j = i from fun e => hij e.symm]
          simpa using hi)
      simp [upd, hak, this]
    · intro a b x y hx hy hk
      rcases hget a x hx with ⟨q1, q2, _⟩ | ⟨q1, q2⟩ <;> rcases hget b y hy with ⟨r1, r2, _⟩ | ⟨r1, r2⟩
      · omega
      · exact absurd (h4 b j y e r2 g2 (by rw [← hk, q2, g3])) r1
      · exact absurd (h4 a j x e q2 g2 (by rw [hk, r2, g3])) q1
      · exact h4 a b x y q2 r2 hk
theorem MapAt.new (w : World) : MapAt (w.alloc (Obj.map #[] 0)) w.heap.size (fun _ => false) :=
  ⟨#[], 0, heap_alloc_new _ _, fun e he => by simp at he, fun k _ => rfl, fun i j e f he => by simp at he⟩
section
variable {ops : Array Oper} {rest : List Oper} {o : Oper} {a : Go.Act} {w : World} {Q : Exit → Go.Act → World → Prop}
theorem wg_lookB (M : Nat) (F : Int → Bool) (k : Int) (hm : MapAt w M F) (hw : Region.wanted o (yielded ops a.tmps) = true) (x y : Operand) (ho : o.op = .lookup 72 x y false) (hx : a.eval x = .map (some M)) (hy : a.eval y = .int .i64 k)
    (h : wpList Tryd.prog ops Q rest (a.put o.dst (.bool (F k))) w) : wpList Tryd.prog ops Q (o :: rest) a w := by
  have hr : (execOp a.eval o).run Tryd.prog w = .ok (.value (.bool (F k))) w := by
    unfold execOp; simp only [ho, hx, hy, look w M F k hm, Sem.run_bind, Sem.run_pure, Result.andThen_ok]
  exact BigFrame.wpList_want hw fun K hK => by
    unfold Oper.wp
    rw [hr]
    exact hK _ _ h
theorem wl_updB (M : Nat) (F : Int → Bool) (k : Int) (p : Bool) (hm : MapAt w M F) (hgd : o.guard = none) (x y z : Operand) (ho : o.op = .mapUpdate 72 x y z) (hx : a.eval x = .map (some M)) (hy : a.eval y = .int .i64 k) (hz : a.eval z = .bool p)
    (h : ∀ w', MapAt w' M (upd F k p) → Mod (· = M) w w' → wpList Tryd.prog ops Q rest (a.put o.dst undef) w') : wpList Tryd.prog ops Q (o :: rest) a w :=
  wpList_plain hgd fun K hK => by
    obtain ⟨w', hr, h1, h2⟩ := store w M F k p hm
    unfold Oper.wp execOp
    simp only [ho, hx, hy, hz, hr, Sem.run_bind, Sem.run_pure, Result.andThen_ok]
    exact hK _ _ (h w' h1 h2)
end
end Go.Proofs.YtpijilfkmkdghaaDoor.Mni
