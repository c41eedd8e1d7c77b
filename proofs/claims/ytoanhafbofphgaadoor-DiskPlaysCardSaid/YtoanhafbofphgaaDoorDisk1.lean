/- A disk in memory; its small calls. -/
import Derived.Test.YtoanhafbofphgaaDoorDisk0
set_option linter.unusedVariables false
namespace Go.Proofs.YtoanhafbofphgaaDoor.Dk
open Go.RowKit Go.Proofs.YtoanhafbofphgaaDoorW.PrintWords Go.Proofs.YtoanhafbofphgaaDoorW.PrintLast Go.Proofs.YtoanhafbofphgaaDoorW.PrintMore Go.Proofs.YtoanhafbofphgaaDoor.Md
open Go.Extern.Stop (cell)
open Go.Proofs.YtoanhafbofphgaaDoor.Err (Laid IsErr code_nil Chain at_some at_nil)
/-- what a disk is -/
structure Dsk where
  size : Int
  firm : Int → Pg
  soft : List (Int × Pg)
  down : Bool
  budget : Int
/-- the cells of a write that isn't firm -/
def scs (x : Int × Pg) : List Value := .int .i64 x.1 :: pcs x.2
theorem scs_one (x : Int × Pg) : ∀ v ∈ scs x, v.oneCell' = true := by
  intro v hv
  rcases List.mem_cons.1 hv with rfl | h
  · rfl
  · exact pcs_one _ v h
def sk : Kd (Int × Pg) where
  sz := 65
  E := []
  K := fun _ x cs => cs = scs x
  M := fun _ _ _ x cs => cs = scs x
  K_len := fun h => by rw [h]; simp [scs, pcs_length]
  K_one := fun h u hu => by rw [h] at hu; exact scs_one _ u hu
  K_below := fun _ h => h
  K_of_M := fun h => h
  M_mono := fun _ h => h
  M_bound := fun h => h
  M_move := fun _ h => h
  M_lower := fun _ h => h
/-- the disk whose struct is block R, whose map is block M, whose soft writes are the slice v -/
structure IsD (w : World) (R M : Nat) (v : Value) (d : Dsk) : Prop where
  blk : w.heap[R]? = some (Obj.cells #[.int .i64 d.size, .map (some M), v, .bool d.down, .int .i64 d.budget] 62 (0, 0))
  map : MapAt w M d.firm
  soft : sk.R 67 w 0 (fun k => k ≠ R ∧ k ≠ M) v d.soft
/-- the blocks of a disk -/
def Ft (R M : Nat) (v : Value) (i : Nat) : Prop := i = R ∨ i = M ∨ v.ownBlock = some i
theorem IsD.c0 {w : World} {R M : Nat} {v : Value} {d : Dsk} (h : IsD w R M v d) : w.cell? ⟨R, 0, none⟩ = some (.int .i64 d.size) := Err.cell_of_blk h.blk 0
theorem IsD.c1 {w : World} {R M : Nat} {v : Value} {d : Dsk} (h : IsD w R M v d) : w.cell? ⟨R, 1, none⟩ = some (.map (some M)) := Err.cell_of_blk h.blk 1
theorem IsD.c2 {w : World} {R M : Nat} {v : Value} {d : Dsk} (h : IsD w R M v d) : w.cell? ⟨R, 2, none⟩ = some v := Err.cell_of_blk h.blk 2
theorem IsD.c3 {w : World} {R M : Nat} {v : Value} {d : Dsk} (h : IsD w R M v d) : w.cell? ⟨R, 3, none⟩ = some (.bool d.down) := Err.cell_of_blk h.blk 3
theorem IsD.c4 {w : World} {R M : Nat} {v : Value} {d : Dsk} (h : IsD w R M v d) : w.cell? ⟨R, 4, none⟩ = some (.int .i64 d.budget) := Err.cell_of_blk h.blk 4
theorem IsD.fz {w : World} {R M : Nat} {v : Value} {d : Dsk} (h : IsD w R M v d) (j : Nat) : w.frozen? ⟨R, j, none⟩ = false := by
  simp [World.frozen?, h.blk]
theorem IsD.ltR {w : World} {R M : Nat} {v : Value} {d : Dsk} (h : IsD w R M v d) : R < w.heap.size := Err.lt_of_block h.blk
theorem IsD.ne {w : World} {R M : Nat} {v : Value} {d : Dsk} (h : IsD w R M v d) : R ≠ M := fun e => by
  obtain ⟨es, c, h1, _⟩ := h.map
  have := h.blk
  rw [e, h1] at this
  simp at this
theorem IsD.mod {w w' : World} {R M : Nat} {v : Value} {d : Dsk} {S : Nat → Prop} (h : IsD w R M v d) (k : Mod S w w') (hn : ∀ i, Ft R M v i → ¬ S i) : IsD w' R M v d :=
  ⟨k.blk h.blk (hn _ (.inl rfl)), h.map.mod k (hn _ (.inr (.inl rfl))), by
    obtain ⟨h0, inner, ho, hr⟩ := h.soft
    exact ⟨h0, inner, own_move ho (fun i hi => k.block i (own_lt ho i hi) (hn i (.inr (.inr hi)))), hr⟩⟩
theorem IsD.on {w w' : World} {R M : Nat} {v : Value} {d : Dsk} (h : IsD w R M v d) (k : Below w.heap.size w w') : IsD w' R M v d := h.mod (Mod.of_below (S := fun _ => False) k (Nat.le_refl _)) (fun _ _ h => h)
def errV (n : Int) : Value := .iface 58 (.int .i64 n)
theorem may_down (w : World) (R M : Nat) (v : Value) (d : Dsk) (i : Int) (h : Hid (IsD w R M v d)) (hd : Hid (d.down = true)) :
    Calls Tryd.prog 23 #[.pointer (some ⟨R, 0, none⟩), .int .i64 i] w fun ev w' => ev = .returned (errV 11) ∧ Below w.heap.size w w' := by
  have h3 := h.out.c3
  rw [hd.out] at h3
  go_enter Tryd.func23, Tryd.ntmps23
  go_wp2_with fail
  go_ret
  exact ⟨rfl, Below.refl _ _⟩
theorem may_low (w : World) (R M : Nat) (v : Value) (d : Dsk) (i : Int) (h : Hid (IsD w R M v d)) (hd : Hid (d.down = false)) (hi : i < 0) :
    Calls Tryd.prog 23 #[.pointer (some ⟨R, 0, none⟩), .int .i64 i] w fun ev w' => ev = .returned (errV 1) ∧ Below w.heap.size w w' := by
  have h3 := h.out.c3
  rw [hd.out] at h3
  have c1 : decide (i < 0) = true := decide_eq_true hi
  clear hi
  go_enter Tryd.func23, Tryd.ntmps23
  go_wp2_with fail
  go_ret
  exact ⟨rfl, Below.refl _ _⟩
theorem may_high (w : World) (R M : Nat) (v : Value) (d : Dsk) (i : Int) (h : Hid (IsD w R M v d)) (hd : Hid (d.down = false)) (h0 : 0 ≤ i) (hi : d.size ≤ i) :
    Calls Tryd.prog 23 #[.pointer (some ⟨R, 0, none⟩), .int .i64 i] w fun ev w' => ev = .returned (errV 1) ∧ Below w.heap.size w w' := by
  have h3 := h.out.c3
  have hz := h.out.c0
  rw [hd.out] at h3
  have c1 : decide (i < 0) = false := decide_eq_false (by omega)
  have c2 : decide (d.size ≤ i) = true := decide_eq_true hi
  clear hi h0
  go_enter Tryd.func23, Tryd.ntmps23
  go_wp2_with fail
  go_ret
  exact ⟨rfl, Below.refl _ _⟩
theorem may_ok (w : World) (R M : Nat) (v : Value) (d : Dsk) (i : Int) (h : Hid (IsD w R M v d)) (hd : Hid (d.down = false)) (h0 : 0 ≤ i) (hi : i < d.size) :
    Calls Tryd.prog 23 #[.pointer (some ⟨R, 0, none⟩), .int .i64 i] w fun ev w' => ev = .returned .nilIface ∧ Below w.heap.size w w' := by
  have h3 := h.out.c3
  have hz := h.out.c0
  rw [hd.out] at h3
  have c1 : decide (i < 0) = false := decide_eq_false (by omega)
  have c2 : decide (d.size ≤ i) = false := decide_eq_false (by omega)
  clear hi h0
  go_enter Tryd.func23, Tryd.ntmps23
  go_wp2_with fail
  go_ret
  exact ⟨rfl, Below.refl _ _⟩
/-- why a sector can't be asked for; 0: it can -/
def mayN (d : Dsk) (i : Int) : Int := if d.down then 11 else if i < 0 ∨ d.size ≤ i then 1 else 0
theorem may_c (w : World) (R M : Nat) (v : Value) (d : Dsk) (i : Int) (h : Hid (IsD w R M v d)) :
    Calls Tryd.prog 23 #[.pointer (some ⟨R, 0, none⟩), .int .i64 i] w fun ev w' => ev = .returned (if mayN d i = 0 then .nilIface else errV (mayN d i)) ∧ Below w.heap.size w w' := by
  cases hd : d.down with
  | true =>
    have e : mayN d i = 11 := by simp [mayN, hd]
    rw [e]; exact may_down w R M v d i h (Lib.hid hd)
  | false =>
    by_cases h0 : i < 0
    · have e : mayN d i = 1 := by simp [mayN, hd, h0]
      rw [e]; exact may_low w R M v d i h (Lib.hid hd) h0
    · by_cases h1 : d.size ≤ i
      · have e : mayN d i = 1 := by simp [mayN, hd, h1]
        rw [e]; exact may_high w R M v d i h (Lib.hid hd) (by omega) h1
      · have e : mayN d i = 0 := by simp [mayN, hd, h0, h1]
        rw [e]; exact may_ok w R M v d i h (Lib.hid hd) (by omega) (by omega)
theorem size_c (w : World) (R M : Nat) (v : Value) (d : Dsk) (h : Hid (IsD w R M v d)) :
    Calls Tryd.prog 17 #[.pointer (some ⟨R, 0, none⟩)] w fun ev w' => ev = .returned (.int .i64 d.size) ∧ Below w.heap.size w w' := by
  have hz := h.out.c0
  go_enter Tryd.func17, Tryd.ntmps17
  go_wp2_with fail
  go_ret
  exact ⟨rfl, Below.refl _ _⟩
theorem soft_c (w : World) (R M : Nat) (v : Value) (d : Dsk) (h : Hid (IsD w R M v d)) :
    Calls Tryd.prog 16 #[.pointer (some ⟨R, 0, none⟩)] w fun ev w' => ev = .returned (.int .i64 (d.soft.length : Int)) ∧ Below w.heap.size w w' := by
  obtain ⟨A, c, rfl⟩ := Kd.R_slice h.out.soft
  have hz := h.out.c2
  go_enter Tryd.func16, Tryd.ntmps16
  go_wp2_with fail
  go_ret
  exact ⟨rfl, Below.refl _ _⟩
theorem IsD.setCell {w : World} {R M : Nat} {v : Value} {d : Dsk} (h : IsD w R M v d) (j : Nat) (u : Value) (cs : Array Value) (hj : cs = (#[.int .i64 d.size, .map (some M), v, .bool d.down, .int .i64 d.budget] : Array Value).setIfInBounds j u) : (w.setCell ⟨R, j, none⟩ u).heap[R]? = some (Obj.cells cs 62 (0, 0)) := by
  subst hj
  show (w.heap.modify R _)[R]? = _
  rw [Array.getElem?_modify]
  simp [h.blk]
theorem mod_set (w : World) (R j : Nat) (u : Value) : Mod (· = R) w (w.setCell ⟨R, j, none⟩ u) := Mod.set (Mod.refl _ _) _ _ (.inl rfl)
theorem IsD.put {w w' : World} {R M : Nat} {v : Value} {d d' : Dsk} (h : IsD w R M v d) (k : Mod (· = R) w w') (hb : w'.heap[R]? = some (Obj.cells #[.int .i64 d'.size, .map (some M), v, .bool d'.down, .int .i64 d'.budget] 62 (0, 0))) (hf : d'.firm = d.firm) (hs : d'.soft = d.soft) : IsD w' R M v d' :=
  ⟨hb, by rw [hf]; exact h.map.mod k h.ne.symm, by
    rw [hs]
    obtain ⟨h0, inner, ho, hr⟩ := h.soft
    exact ⟨h0, inner, own_move ho (fun i hi => k.block i (own_lt ho i hi) (h0 i hi).1), hr⟩⟩
theorem up_c (w : World) (R M : Nat) (v : Value) (d : Dsk) (h : Hid (IsD w R M v d)) :
    Calls Tryd.prog 15 #[.pointer (some ⟨R, 0, none⟩)] w fun ev w' => ev = .returned (.tuple #[]) ∧ Mod (· = R) w w' ∧ IsD w' R M v { d with down := false } := by
  have h3 := h.out.c3
  have hf := h.out.fz 3
  go_enter Tryd.func15, Tryd.ntmps15
  go_wp2_with fail
  go_end0
  exact ⟨rfl, mod_set _ _ _ _, h.out.put (mod_set _ _ _ _) (h.out.setCell 3 _ _ rfl) rfl rfl⟩
theorem budget_c (w : World) (R M : Nat) (v : Value) (d : Dsk) (n : Int) (HD : Hid (IsD w R M v d)) :
    Calls Tryd.prog 19 #[.pointer (some ⟨R, 0, none⟩), .int .i64 n] w fun ev w' => ev = .returned (.tuple #[]) ∧ Mod (· = R) w w' ∧ IsD w' R M v { d with budget := max n (-1) } := by
  have h3 := HD.out.c4
  have hf := HD.out.fz 4
  go_enter Tryd.func19, Tryd.ntmps19
  go_wp2_with fail
  · have e : max n (-1) = -1 := by omega
    go_end0
    exact ⟨rfl, mod_set _ _ _ _, HD.out.put (mod_set _ _ _ _) (HD.out.setCell 4 _ _ (by rw [e]; rfl)) rfl rfl⟩
  · have e : max n (-1) = n := by omega
    go_end0
    exact ⟨rfl, mod_set _ _ _ _, HD.out.put (mod_set _ _ _ _) (HD.out.setCell 4 _ _ (by rw [e]; rfl)) rfl rfl⟩
end Go.Proofs.YtoanhafbofphgaaDoor.Dk
