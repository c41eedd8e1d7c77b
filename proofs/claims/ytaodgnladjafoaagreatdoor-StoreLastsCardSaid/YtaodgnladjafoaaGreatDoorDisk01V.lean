/- Several texts in one: words that the proof of the law uses. -/
import Derived.Test.YtaodgnladjafoaaGreatDoorWordsV
import Derived.Test.YtaodgnladjafoaaGreatDoorErr01V
import Derived.MapKept
import Derived.Stop.BytesEq
import Derived.Deep.MidRow
import Derived.Deep.WholeRow
import Derived.Deep.RegionHeld3
set_option linter.unusedVariables false
namespace Go.Proofs.YtaodgnladjafoaaGreatDoor.Dk
open Go.RowKit Go.Proofs.YtaodgnladjafoaaGreatDoorW.PrintWords Go.Proofs.YtaodgnladjafoaaGreatDoorW.PrintLast Go.Proofs.YtaodgnladjafoaaGreatDoorW.PrintMore Go.Proofs.YtaodgnladjafoaaGreatDoor.Md
open Go.Extern.Stop (cell)
abbrev Pg := { l : List UInt8 // l.length = 64 }
def pcs (p : Pg) : List Value := p.1.map cell
def pa (p : Pg) : Array Value := (p.1.map cell).toArray
def pv (p : Pg) : Value := .agg (pa p)
def pz : Pg := ⟨List.replicate 64 0, by simp⟩
theorem pa_size (p : Pg) : (pa p).size = 64 := by simp [pa, p.2]
theorem pcs_length (p : Pg) : (pcs p).length = 64 := by simp [pcs, p.2]
theorem pa_list (p : Pg) : (pa p).toList = pcs p := by simp [pa, pcs]
theorem pa_one (p : Pg) : (pa p).all (·.oneCell') = true := by
  apply all_oneCell_toArray
  intro v hv
  simp at hv
  obtain ⟨b, _, rfl⟩ := hv
  rfl
theorem pcs_one (p : Pg) : ∀ v ∈ pcs p, v.oneCell' = true := by
  intro v hv
  simp [pcs] at hv
  obtain ⟨b, _, rfl⟩ := hv
  rfl
theorem size30 : (Tryz.prog.info? 100).map (·.size) = some 64 := by kernel_rfl
theorem size5 (w : World) : (sizeOf 5).run Tryz.prog w = .ok 1 w := by kernel_rfl
def MapAt (w : World) (M : Nat) (F : Int → Pg) : Prop := ∃ es clock, w.heap[M]? = some (Obj.map es clock) ∧ (∀ e ∈ es.toList, ∃ k, e.key = .int .i64 k ∧ e.val = pv (F k)) ∧ (∀ k, (∀ e ∈ es.toList, e.key ≠ .int .i64 k) → F k = pz) ∧
  (∀ (i j : Nat) e f, es.toList[i]? = some e → es.toList[j]? = some f → e.key = f.key → i = j)
theorem MapAt.mod {w w' : World} {M : Nat} {F : Int → Pg} {S : Nat → Prop} (h : MapAt w M F) (k : Mod S w w') (hn : ¬ S M) : MapAt w' M F := by
  obtain ⟨es, clock, h1, h2⟩ := h
  exact ⟨es, clock, k.blk h1 hn, h2⟩
theorem MapAt.lt {w : World} {M : Nat} {F : Int → Pg} (h : MapAt w M F) : M < w.heap.size := by
  obtain ⟨es, clock, h1, h2⟩ := h
  exact Err.lt_of_block h1
theorem isKey (k : Int) : MapKept.IsKey (.int .i64) (.int .i64 k) := by simp [MapKept.IsKey]
theorem keys_of {w : World} {F : Int → Pg} {es : Array MapEntry} (h : ∀ e ∈ es.toList, ∃ k, e.key = .int .i64 k ∧ e.val = pv (F k)) : ∀ x ∈ es.toList, MapKept.IsKey (.int .i64) x.key := by
  intro x hx
  obtain ⟨k, hk, _⟩ := h x hx
  rw [hk]; exact isKey k
theorem look (w : World) (M : Nat) (F : Int → Pg) (k : Int) (h : MapAt w M F) : (Instr.lookup 75 (.map (some M)) (.int .i64 k) false).run Tryz.prog w = .ok (pv (F k)) w := by
  obtain ⟨es, clock, h1, h2, h3, h4⟩ := h
  have hc : (Instr.checkKey es.isEmpty 10000 3 (.int .i64 k)).run Tryz.prog w = .ok () w := MapKept.run_checkKey Tryz.underlying3 (isKey k) _ 9999
  rcases MapKept.findNow_spec (isKey k) es.toList 0 (keys_of (w := w) h2) with ⟨g1, g2⟩ | ⟨j, e, g1, g2, g3⟩
  · simp [Instr.lookup, run_underlying Tryz.underlying75, MapKept.run_getObj_map h1, hc, MapKept.run_findKey Tryz.underlying3 g1, Result.andThen, h3 k g2]
    rfl
  · obtain ⟨a, ha, hv⟩ := h2 e (List.mem_of_getElem? g2)
    have : a = k := by rw [g3] at ha; simp at ha; exact ha.symm
    subst this
    simp [Instr.lookup, run_underlying Tryz.underlying75, MapKept.run_getObj_map h1, hc, MapKept.run_findKey Tryz.underlying3 g1, Result.andThen, hv]
def upd (F : Int → Pg) (k : Int) (p : Pg) : Int → Pg := fun a => if a = k then p else F a
theorem mod_setObj {w : World} {M : Nat} {o : Obj} : Mod (· = M) w { w with heap := w.heap.setIfInBounds M o } :=
  ⟨rfl, rfl, rfl, by simp, fun k hk hs => by simp; rw [Array.getElem?_setIfInBounds_ne (fun e => hs e.symm)]⟩
theorem store (w : World) (M : Nat) (F : Int → Pg) (k : Int) (p : Pg) (h : MapAt w M F) : ∃ w', (Instr.mapUpdate 75 (.map (some M)) (.int .i64 k) (pv p)).run Tryz.prog w = .ok () w' ∧ MapAt w' M (upd F k p) ∧ Mod (· = M) w w' := by
  obtain ⟨es, clock, h1, h2, h3, h4⟩ := h
  have hlt := Err.lt_of_block h1
  have hc : (Instr.checkKey false 10000 3 (.int .i64 k)).run Tryz.prog w = .ok () w := MapKept.run_checkKey Tryz.underlying3 (isKey k) _ 9999
  rcases MapKept.findNow_spec (isKey k) es.toList 0 (keys_of (w := w) h2) with ⟨g1, g2⟩ | ⟨j, e, g1, g2, g3⟩
  · refine ⟨{ w with heap := w.heap.setIfInBounds M (.map (es.push { key := .int .i64 k, val := pv p, born := clock }) (clock + 1)) }, by simp [Instr.mapUpdate, run_underlying Tryz.underlying75, MapKept.run_getObj_map h1, hc, MapKept.run_findKey Tryz.underlying3 g1, MapKept.run_setObj_map _ h1, Result.andThen], ?_, mod_setObj⟩
    refine ⟨es.push { key := .int .i64 k, val := pv p, born := clock }, clock + 1, by simp [hlt], ?_, ?_, ?_⟩
    · intro e he
      simp at he
      rcases he with he | rfl
      · obtain ⟨a, ha, hv⟩ := h2 e (by simpa using he)
        refine ⟨a, ha, ?_⟩
        have hne : a ≠ k := fun hh => g2 e (by simpa using he) (by rw [ha, hh])
        simp [upd, hne, hv]
      · exact ⟨k, rfl, by simp [upd]⟩
    · intro a ha
      have hak : a ≠ k := fun hh => by
        subst hh
        exact ha { key := .int .i64 a, val := pv p, born := clock } (by simp) rfl
      have := h3 a (fun e he => ha e (by simp; left; simpa using he))
      simp [upd, hak, this]
    · intro a b x y hx hy hk
      simp only [Array.toList_push] at hx hy
      rw [List.getElem?_append] at hx hy
      split at hx <;> split at hy
      · exact h4 a b x y hx hy hk
      · rename_i l1 l2
        have hy' : y = { key := .int .i64 k, val := pv p, born := clock } := by
          have : b - es.toList.length = 0 := by
            rcases hz : b - es.toList.length with _ | n
            · rfl
            · rw [hz] at hy; simp at hy
          rw [this] at hy; simpa using hy.symm
        exact absurd (hk.trans (by rw [hy'])) (g2 x (List.mem_of_getElem? hx))
      · rename_i l1 l2
        have hx' : x = { key := .int .i64 k, val := pv p, born := clock } := by
          have : a - es.toList.length = 0 := by
            rcases hz : a - es.toList.length with _ | n
            · rfl
            · rw [hz] at hx; simp at hx
          rw [this] at hx; simpa using hx.symm
        exact absurd (hk.symm.trans (by rw [hx'])) (g2 y (List.mem_of_getElem? hy))
      · rename_i l1 l2
        have e1 : a - es.toList.length = 0 := by
          rcases hz : a - es.toList.length with _ | n
          · rfl
          · rw [hz] at hx; simp at hx
        have e2 : b - es.toList.length = 0 := by
          rcases hz : b - es.toList.length with _ | n
          · rfl
          · rw [hz] at hy; simp at hy
        omega
  · have hj : j < es.toList.length := (List.getElem?_eq_some_iff.1 g2).1
    have hej : es[j]? = some e := by simpa using g2
    refine ⟨{ w with heap := w.heap.setIfInBounds M (.map (es.modify j fun e => { e with key := .int .i64 k, val := pv p }) clock) }, by simp [Instr.mapUpdate, run_underlying Tryz.underlying75, MapKept.run_getObj_map h1, hc, MapKept.run_findKey Tryz.underlying3 g1, hej, g3, MapKept.run_keyThatStays (isKey k), MapKept.run_setObj_map _ h1, Result.andThen], ?_, mod_setObj⟩
    have hget : ∀ (i : Nat) x, (es.modify j fun e => { e with key := .int .i64 k, val := pv p }).toList[i]? = some x → (i = j ∧ x.key = .int .i64 k ∧ x.val = pv p) ∨ (i ≠ j ∧ es.toList[i]? = some x) := by
      intro i x hx
      rw [Array.getElem?_toList, Array.getElem?_modify] at hx
      by_cases hij : j = i
      · subst hij
        simp [hej] at hx
        subst hx
        exact .inl ⟨rfl, rfl, rfl⟩
      · simp [hij] at hx
        exact .inr ⟨fun e => hij e.symm, by simpa using hx⟩
    refine ⟨es.modify j fun e => { e with key := .int .i64 k, val := pv p }, clock, by simp [hlt], ?_, ?_, ?_⟩
    · intro x hx
      obtain ⟨i, hi⟩ := List.getElem?_of_mem hx
      rcases hget i x hi with ⟨_, q1, q2⟩ | ⟨q1, q2⟩
      · exact ⟨k, q1, by simp [upd, q2]⟩
      · obtain ⟨a, ha, hv⟩ := h2 x (List.mem_of_getElem? q2)
        have hne : a ≠ k := fun hh => q1 (h4 i j x e q2 g2 (by rw [ha, g3, hh]))
        exact ⟨a, ha, by simp [upd, hne, hv]⟩
    · intro a ha
      have hak : a ≠ k := fun hh => by
        subst hh
        have hm : (es.modify j fun e => { e with key := .int .i64 a, val := pv p }).toList[j]? = some { e with key := .int .i64 a, val := pv p } := by
          rw [Array.getElem?_toList, Array.getElem?_modify]; simp [hej]
        exact ha _ (List.mem_of_getElem? hm) rfl
      have := h3 a (fun x hx => by
        obtain ⟨i, hi⟩ := List.getElem?_of_mem hx
        by_cases hij : i = j
        · subst hij
          rw [g2] at hi
          cases hi
          rw [g3]; intro hh; simp at hh; exact hak hh.symm
        · refine ha x (List.mem_of_getElem? (i := i) ?_)
          rw [Array.getElem?_toList, Array.getElem?_modify]
          simp [show ¬ j = i from fun e => hij e.symm]
          simpa using hi)
      simp [upd, hak, this]
    · intro a b x y hx hy hk
      rcases hget a x hx with ⟨q1, q2, _⟩ | ⟨q1, q2⟩ <;> rcases hget b y hy with ⟨r1, r2, _⟩ | ⟨r1, r2⟩
      · omega
      · exact absurd (h4 b j y e r2 g2 (by rw [← hk, q2, g3])) r1
      · exact absurd (h4 a j x e q2 g2 (by rw [hk, r2, g3])) q1
      · exact h4 a b x y q2 r2 hk
end Go.Proofs.YtaodgnladjafoaaGreatDoor.Dk
namespace Go.Proofs.YtaodgnladjafoaaGreatDoor.Dk
open Go.RowKit Go.Proofs.YtaodgnladjafoaaGreatDoorW.PrintWords Go.Proofs.YtaodgnladjafoaaGreatDoorW.PrintLast Go.Proofs.YtaodgnladjafoaaGreatDoorW.PrintMore Go.Proofs.YtaodgnladjafoaaGreatDoor.Md
open Go.Extern.Stop (cell)
open Go.Proofs.YtaodgnladjafoaaGreatDoor.Err (Laid IsErr code_nil Chain at_some at_nil)
structure Dsk where
  size : Int
  firm : Int → Pg
  soft : List (Int × Pg)
  down : Bool
  budget : Int
def scs (x : Int × Pg) : List Value := .int .i64 x.1 :: pcs x.2
theorem scs_one (x : Int × Pg) : ∀ v ∈ scs x, v.oneCell' = true := by
  intro v hv
  rcases List.mem_cons.1 hv with rfl | h
  · rfl
  · exact pcs_one _ v h
def sk : Kd (Int × Pg) where
  sz := 65
  E := []
  K := fun _ x cs => cs = scs x
  M := fun _ _ _ x cs => cs = scs x
  K_len := fun h => by rw [h]; simp [scs, pcs_length]
  K_one := fun h u hu => by rw [h] at hu; exact scs_one _ u hu
  K_below := fun _ h => h
  K_of_M := fun h => h
  M_mono := fun _ h => h
  M_bound := fun h => h
  M_move := fun _ h => h
  M_lower := fun _ h => h
structure IsD (w : World) (R M : Nat) (v : Value) (d : Dsk) : Prop where
  blk : w.heap[R]? = some (Obj.cells #[.int .i64 d.size, .map (some M), v, .bool d.down, .int .i64 d.budget] 78 (0, 0))
  map : MapAt w M d.firm
  soft : sk.R 103 w 0 (fun k => k ≠ R ∧ k ≠ M) v d.soft
def Ft (R M : Nat) (v : Value) (i : Nat) : Prop := i = R ∨ i = M ∨ v.ownBlock = some i
theorem IsD.c0 {w : World} {R M : Nat} {v : Value} {d : Dsk} (h : IsD w R M v d) : w.cell? ⟨R, 0, none⟩ = some (.int .i64 d.size) := Err.cell_of_blk h.blk 0
theorem IsD.c1 {w : World} {R M : Nat} {v : Value} {d : Dsk} (h : IsD w R M v d) : w.cell? ⟨R, 1, none⟩ = some (.map (some M)) := Err.cell_of_blk h.blk 1
theorem IsD.c2 {w : World} {R M : Nat} {v : Value} {d : Dsk} (h : IsD w R M v d) : w.cell? ⟨R, 2, none⟩ = some v := Err.cell_of_blk h.blk 2
theorem IsD.c3 {w : World} {R M : Nat} {v : Value} {d : Dsk} (h : IsD w R M v d) : w.cell? ⟨R, 3, none⟩ = some (.bool d.down) := Err.cell_of_blk h.blk 3
theorem IsD.c4 {w : World} {R M : Nat} {v : Value} {d : Dsk} (h : IsD w R M v d) : w.cell? ⟨R, 4, none⟩ = some (.int .i64 d.budget) := Err.cell_of_blk h.blk 4
theorem IsD.fz {w : World} {R M : Nat} {v : Value} {d : Dsk} (h : IsD w R M v d) (j : Nat) : w.frozen? ⟨R, j, none⟩ = false := by
  simp [World.frozen?, h.blk]
theorem IsD.ltR {w : World} {R M : Nat} {v : Value} {d : Dsk} (h : IsD w R M v d) : R < w.heap.size := Err.lt_of_block h.blk
theorem IsD.ne {w : World} {R M : Nat} {v : Value} {d : Dsk} (h : IsD w R M v d) : R ≠ M := fun e => by
  obtain ⟨es, c, h1, _⟩ := h.map
  have := h.blk
  rw [e, h1] at this
  simp at this
theorem IsD.mod {w w' : World} {R M : Nat} {v : Value} {d : Dsk} {S : Nat → Prop} (h : IsD w R M v d) (k : Mod S w w') (hn : ∀ i, Ft R M v i → ¬ S i) : IsD w' R M v d :=
  ⟨k.blk h.blk (hn _ (.inl rfl)), h.map.mod k (hn _ (.inr (.inl rfl))), by
    obtain ⟨h0, inner, ho, hr⟩ := h.soft
    exact ⟨h0, inner, own_move ho (fun i hi => k.block i (own_lt ho i hi) (hn i (.inr (.inr hi)))), hr⟩⟩
theorem IsD.on {w w' : World} {R M : Nat} {v : Value} {d : Dsk} (h : IsD w R M v d) (k : Below w.heap.size w w') : IsD w' R M v d := h.mod (Mod.of_below (S := fun _ => False) k (Nat.le_refl _)) (fun _ _ h => h)
def errV (n : Int) : Value := .iface 74 (.int .i64 n)
theorem may_down (w : World) (R M : Nat) (v : Value) (d : Dsk) (i : Int) (h : Hid (IsD w R M v d)) (hd : Hid (d.down = true)) :
    Calls Tryz.prog 49 #[.pointer (some ⟨R, 0, none⟩), .int .i64 i] w fun ev w' => ev = .returned (errV 11) ∧ Below w.heap.size w w' := by
  have h3 := h.out.c3
  rw [hd.out] at h3
  go_enter Tryz.func49, Tryz.ntmps49
  go_wp2_with fail
  go_ret
  exact ⟨rfl, Below.refl _ _⟩
theorem may_low (w : World) (R M : Nat) (v : Value) (d : Dsk) (i : Int) (h : Hid (IsD w R M v d)) (hd : Hid (d.down = false)) (hi : i < 0) :
    Calls Tryz.prog 49 #[.pointer (some ⟨R, 0, none⟩), .int .i64 i] w fun ev w' => ev = .returned (errV 1) ∧ Below w.heap.size w w' := by
  have h3 := h.out.c3
  rw [hd.out] at h3
  have c1 : decide (i < 0) = true := decide_eq_true hi
  clear hi
  go_enter Tryz.func49, Tryz.ntmps49
  go_wp2_with fail
  go_ret
  exact ⟨rfl, Below.refl _ _⟩
theorem may_high (w : World) (R M : Nat) (v : Value) (d : Dsk) (i : Int) (h : Hid (IsD w R M v d)) (hd : Hid (d.down = false)) (h0 : 0 ≤ i) (hi : d.size ≤ i) :
    Calls Tryz.prog 49 #[.pointer (some ⟨R, 0, none⟩), .int .i64 i] w fun ev w' => ev = .returned (errV 1) ∧ Below w.heap.size w w' := by
  have h3 := h.out.c3
  have hz := h.out.c0
  rw [hd.out] at h3
  have c1 : decide (i < 0) = false := decide_eq_false (by omega)
  have c2 : decide (d.size ≤ i) = true := decide_eq_true hi
  clear hi h0
  go_enter Tryz.func49, Tryz.ntmps49
  go_wp2_with fail
  go_ret
  exact ⟨rfl, Below.refl _ _⟩
theorem may_ok (w : World) (R M : Nat) (v : Value) (d : Dsk) (i : Int) (h : Hid (IsD w R M v d)) (hd : Hid (d.down = false)) (h0 : 0 ≤ i) (hi : i < d.size) :
    Calls Tryz.prog 49 #[.pointer (some ⟨R, 0, none⟩), .int .i64 i] w fun ev w' => ev = .returned .nilIface ∧ Below w.heap.size w w' := by
  have h3 := h.out.c3
  have hz := h.out.c0
  rw [hd.out] at h3
  have c1 : decide (i < 0) = false := decide_eq_false (by omega)
  have c2 : decide (d.size ≤ i) = false := decide_eq_false (by omega)
  clear hi h0
  go_enter Tryz.func49, Tryz.ntmps49
  go_wp2_with fail
  go_ret
  exact ⟨rfl, Below.refl _ _⟩
def mayN (d : Dsk) (i : Int) : Int := if d.down then 11 else if i < 0 ∨ d.size ≤ i then 1 else 0
theorem may_c (w : World) (R M : Nat) (v : Value) (d : Dsk) (i : Int) (h : Hid (IsD w R M v d)) :
    Calls Tryz.prog 49 #[.pointer (some ⟨R, 0, none⟩), .int .i64 i] w fun ev w' => ev = .returned (if mayN d i = 0 then .nilIface else errV (mayN d i)) ∧ Below w.heap.size w w' := by
  cases hd : d.down with
  | true =>
    have e : mayN d i = 11 := by simp [mayN, hd]
    rw [e]; exact may_down w R M v d i h (Lib.hid hd)
  | false =>
    by_cases h0 : i < 0
    · have e : mayN d i = 1 := by simp [mayN, hd, h0]
      rw [e]; exact may_low w R M v d i h (Lib.hid hd) h0
    · by_cases h1 : d.size ≤ i
      · have e : mayN d i = 1 := by simp [mayN, hd, h1]
        rw [e]; exact may_high w R M v d i h (Lib.hid hd) (by omega) h1
      · have e : mayN d i = 0 := by simp [mayN, hd, h0, h1]
        rw [e]; exact may_ok w R M v d i h (Lib.hid hd) (by omega) (by omega)
theorem size_c (w : World) (R M : Nat) (v : Value) (d : Dsk) (h : Hid (IsD w R M v d)) :
    Calls Tryz.prog 39 #[.pointer (some ⟨R, 0, none⟩)] w fun ev w' => ev = .returned (.int .i64 d.size) ∧ Below w.heap.size w w' := by
  have hz := h.out.c0
  go_enter Tryz.func39, Tryz.ntmps39
  go_wp2_with fail
  go_ret
  exact ⟨rfl, Below.refl _ _⟩
theorem IsD.setCell {w : World} {R M : Nat} {v : Value} {d : Dsk} (h : IsD w R M v d) (j : Nat) (u : Value) (cs : Array Value) (hj : cs = (#[.int .i64 d.size, .map (some M), v, .bool d.down, .int .i64 d.budget] : Array Value).setIfInBounds j u) : (w.setCell ⟨R, j, none⟩ u).heap[R]? = some (Obj.cells cs 78 (0, 0)) := by
  subst hj
  show (w.heap.modify R _)[R]? = _
  rw [Array.getElem?_modify]
  simp [h.blk]
theorem mod_set (w : World) (R j : Nat) (u : Value) : Mod (· = R) w (w.setCell ⟨R, j, none⟩ u) := Mod.set (Mod.refl _ _) _ _ (.inl rfl)
theorem IsD.put {w w' : World} {R M : Nat} {v : Value} {d d' : Dsk} (h : IsD w R M v d) (k : Mod (· = R) w w') (hb : w'.heap[R]? = some (Obj.cells #[.int .i64 d'.size, .map (some M), v, .bool d'.down, .int .i64 d'.budget] 78 (0, 0))) (hf : d'.firm = d.firm) (hs : d'.soft = d.soft) : IsD w' R M v d' :=
  ⟨hb, by rw [hf]; exact h.map.mod k h.ne.symm, by
    rw [hs]
    obtain ⟨h0, inner, ho, hr⟩ := h.soft
    exact ⟨h0, inner, own_move ho (fun i hi => k.block i (own_lt ho i hi) (h0 i hi).1), hr⟩⟩
theorem up_c (w : World) (R M : Nat) (v : Value) (d : Dsk) (h : Hid (IsD w R M v d)) :
    Calls Tryz.prog 22 #[.pointer (some ⟨R, 0, none⟩)] w fun ev w' => ev = .returned (.tuple #[]) ∧ Mod (· = R) w w' ∧ IsD w' R M v { d with down := false } := by
  have h3 := h.out.c3
  have hf := h.out.fz 3
  go_enter Tryz.func22, Tryz.ntmps22
  go_wp2_with fail
  go_end0
  exact ⟨rfl, mod_set _ _ _ _, h.out.put (mod_set _ _ _ _) (h.out.setCell 3 _ _ rfl) rfl rfl⟩
theorem budget_c (w : World) (R M : Nat) (v : Value) (d : Dsk) (n : Int) (HD : Hid (IsD w R M v d)) :
    Calls Tryz.prog 20 #[.pointer (some ⟨R, 0, none⟩), .int .i64 n] w fun ev w' => ev = .returned (.tuple #[]) ∧ Mod (· = R) w w' ∧ IsD w' R M v { d with budget := max n (-1) } := by
  have h3 := HD.out.c4
  have hf := HD.out.fz 4
  go_enter Tryz.func20, Tryz.ntmps20
  go_wp2_with fail
  · have e : max n (-1) = -1 := by omega
    go_end0
    exact ⟨rfl, mod_set _ _ _ _, HD.out.put (mod_set _ _ _ _) (HD.out.setCell 4 _ _ (by rw [e]; rfl)) rfl rfl⟩
  · have e : max n (-1) = n := by omega
    go_end0
    exact ⟨rfl, mod_set _ _ _ _, HD.out.put (mod_set _ _ _ _) (HD.out.setCell 4 _ _ (by rw [e]; rfl)) rfl rfl⟩
end Go.Proofs.YtaodgnladjafoaaGreatDoor.Dk
