/- Eight sectors in one variable. -/
import Derived.Test.YtoanhafbofphgaaDoorDisk6
set_option linter.unusedVariables false
set_option linter.unusedSimpArgs false
namespace Go.Proofs.YtoanhafbofphgaaDoor.Dk
open Go.RowKit Go.Proofs.YtoanhafbofphgaaDoorW.PrintWords Go.Proofs.YtoanhafbofphgaaDoorW.PrintLast Go.Proofs.YtoanhafbofphgaaDoorW.PrintMore Go.Proofs.YtoanhafbofphgaaDoor.Md
open Go.Extern.Stop (cell)
/-- block B holds eight sectors -/
def Eight (w : World) (B : Nat) (L : Nat → Pg) : Prop := (∀ k, k < 8 → w.rangeAt B (k * 64) (pcs (L k))) ∧ w.there B 0 512
def e512 : Array Value := (List.replicate 512 (.int .u8 0)).toArray
theorem Eight.new (w : World) : Eight (w.alloc (Obj.cells e512 31 (0, 0))) w.heap.size (fun _ => pz) := by
  have hb := heap_alloc_last w (Obj.cells e512 31 (0, 0))
  refine ⟨fun k hk j u hu => ?_, fun j hj => ⟨?_, ?_⟩⟩
  · rw [cell_of_row _ _ _ _ _ _ hb]
    have hj : j < 64 := by have := (List.getElem?_eq_some_iff.1 hu).1; rw [pcs_length] at this; exact this
    have e1 : e512[k * 64 + j]? = some (.int .u8 0) := by
      show (List.replicate 512 (Value.int .u8 0)).toArray[k * 64 + j]? = _
      rw [List.getElem?_toArray, List.getElem?_replicate, if_pos (by omega)]
    have e2 : (pcs pz)[j]? = some (.int .u8 0) := by
      show ((List.replicate 64 (0 : UInt8)).map cell)[j]? = _
      rw [List.map_replicate, List.getElem?_replicate, if_pos hj]; rfl
    rw [e1, ← hu, e2]
  · rw [cell_of_row _ _ _ _ _ _ hb]
    show ((List.replicate 512 (Value.int .u8 0)).toArray[0 + j]?).isSome = true
    rw [List.getElem?_toArray, List.getElem?_replicate, if_pos (by omega)]; rfl
  · unfold World.frozen?; rw [hb]; simp
theorem Eight.lt {w : World} {B : Nat} {L : Nat → Pg} (h : Eight w B L) : B < w.heap.size := by
  obtain ⟨u, hu⟩ := Option.isSome_iff_exists.1 (h.2 0 (by omega)).1
  exact World.block_lt_of_cell? w _ hu
theorem range_mod {S : Nat → Prop} {w w' : World} {b o : Nat} {cs : List Value} (h : w.rangeAt b o cs) (k : Mod S w w') (hn : ¬ S b) : w'.rangeAt b o cs := fun j u hu => k.cell (h j u hu) hn
theorem there_mod {S : Nat → Prop} {w w' : World} {b o n : Nat} (h : w.there b o n) (k : Mod S w w') (hn : ¬ S b) : w'.there b o n := fun j hj => by
  obtain ⟨u, hu⟩ := Option.isSome_iff_exists.1 (h j hj).1
  exact ⟨by rw [k.cell hu hn]; rfl, k.frozen hu (h j hj).2 hn⟩
theorem Eight.mod {S : Nat → Prop} {w w' : World} {B : Nat} {L : Nat → Pg} (h : Eight w B L) (k : Mod S w w') (hn : ¬ S B) : Eight w' B L := ⟨fun i hi => range_mod (h.1 i hi) k hn, there_mod h.2 k hn⟩
theorem mod_setCells (B : Nat) : ∀ (vs : List Value) (o : Nat) (w : World), Mod (· = B) w (w.setCells B o vs)
  | [], o, w => Mod.refl _ _
  | v :: r, o, w => ((Mod.refl (· = B) w).set ⟨B, o, none⟩ v (.inl rfl)).tr (mod_setCells B r (o + 1) _)
def upN (L : Nat → Pg) (j : Nat) (p : Pg) : Nat → Pg := fun k => if k = j then p else L k
theorem there_part {w : World} {B : Nat} (h : w.there B 0 512) (j : Nat) (hj : j < 8) : w.there B (j * 64) 64 := fun i hi => by
  have := h (j * 64 + i) (by omega)
  rw [Nat.zero_add] at this
  exact this
theorem Eight.put {w : World} {B : Nat} {L : Nat → Pg} (h : Eight w B L) (j : Nat) (hj : j < 8) (p : Pg) : Eight (w.setCells B (j * 64) (pcs p)) B (upN L j p) := by
  refine ⟨fun k hk => ?_, World.there_setCells h.2 _ _ _⟩
  unfold upN
  by_cases e : k = j
  · rw [if_pos e, e]
    exact World.rangeAt_setCells_same w B (j * 64) (pcs p) (by rw [pcs_length]; exact there_part h.2 j hj)
  · rw [if_neg e]
    refine World.rangeAt_setCells_apart (h.1 k hk) B (j * 64) (pcs p) (.inr ?_)
    rw [pcs_length, pcs_length]
    omega
theorem wl_alloc8 {ops : Array Oper} {rest : List Oper} {o : Oper} {a : Act} {w : World} {Q : Exit → Act → World → Prop} (hgd : o.guard = none) (ho : o.op = .alloc 31) (h : wpList Tryd.prog ops Q rest (a.put o.dst (.pointer (some ⟨w.heap.size, 0, none⟩))) (w.alloc (Obj.cells e512 31 (0, 0)))) : wpList Tryd.prog ops Q (o :: rest) a w :=
  Kd.event_run hgd (by unfold execOp; simp only [ho]; kernel_rfl) h
theorem same30 (p : Pg) (w : World) : (Op.equalIn 10000 30 (.agg (pcs p).toArray) (.agg (pcs p).toArray)).run Tryd.prog w = .ok true w := by
  have h := run_equalIn_bytes (P := Tryd.prog) w 9998 30 5 64 Tryd.underlying30 Tryd.underlying5 size5 p.1 p.1 p.2 p.2
  simp only [beq_self_eq_true] at h
  exact h
theorem and7 (n : Int) : ∃ j : Nat, j < 8 ∧ Go.bits .and .i64 n 7 = (j : Int) := by
  refine ⟨(n % 8).toNat, by omega, ?_⟩
  have h127 : (BitVec.ofInt 64 7).toNat = 2 ^ 3 - 1 := by decide
  have key : (BitVec.ofInt 64 n &&& BitVec.ofInt 64 7).toNat = (n % ((2 ^ 64 : Nat) : Int)).toNat % 2 ^ 3 := by
    rw [BitVec.toNat_and, BitVec.toNat_ofInt, h127, Nat.and_two_pow_sub_one_eq_mod]
  show IntKind.i64.wrap ((BitVec.ofInt 64 n &&& BitVec.ofInt 64 7).toNat : Nat) = ((n % 8).toNat : Int)
  rw [key, IntKind.wrap_i64]
  omega
/-- with all bits 1 every write is made firm -/
theorem bit_ones (n : Nat) : bit 18446744073709551615 n = true := by
  have key : ∀ m, m < 64 → (18446744073709551615 / 2 ^ m % 2 == 1) = true := by decide
  exact key _ (Nat.mod_lt _ (by omega))
theorem stl_ones (i : Int) : ∀ (l : List (Int × Pg)) (F : Int → Pg) (n : Nat), stl 18446744073709551615 F l n i = l.foldl (fun out x => if x.1 = i then x.2 else out) (F i)
  | [], F, n => rfl
  | x :: l, F, n => by
    simp only [stl, bit_ones, if_true, List.foldl_cons]
    rw [stl_ones i l _ (n + 1)]
    congr 1
    unfold upd
    by_cases e : i = x.1
    · rw [if_pos e, if_pos e.symm]
    · rw [if_neg e, if_neg (fun h => e h.symm)]
theorem guard30 : Tryd.prog.eqGuardType Tryd.prog.depth 30 = false := by kernel_rfl
end Go.Proofs.YtoanhafbofphgaaDoor.Dk
