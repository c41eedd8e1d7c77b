/- What a call may have turned: all blocks but those of a set are as they were. -/
import Derived.Test.YtaodgnladjafoaaDoorWordsV
import Derived.Below
import Derived.Lib.Hide
set_option linter.unusedVariables false
namespace Go.Proofs.YtaodgnladjafoaaDoor.Md
open Go.RowKit Go.Proofs.YtaodgnladjafoaaDoorW.PrintWords Go.Proofs.YtaodgnladjafoaaDoorW.PrintLast Go.Proofs.YtaodgnladjafoaaDoorW.PrintMore
structure Mod (S : Nat → Prop) (w w' : World) : Prop where
  os : w'.os = w.os
  tape : w'.tape = w.tape
  output : w'.output = w.output
  size : w.heap.size ≤ w'.heap.size
  block : ∀ k, k < w.heap.size → ¬ S k → w'.heap[k]? = w.heap[k]?
theorem Mod.refl (S : Nat → Prop) (w : World) : Mod S w w := ⟨rfl, rfl, rfl, Nat.le_refl _, fun _ _ _ => rfl⟩
theorem Mod.trans {S T : Nat → Prop} {a b c : World} (h : Mod S a b) (k : Mod T b c) (hT : ∀ i, i < a.heap.size → T i → S i) : Mod S a c :=
  ⟨k.os.trans h.os, k.tape.trans h.tape, k.output.trans h.output, Nat.le_trans h.size k.size, fun i hi hs => (k.block i (Nat.lt_of_lt_of_le hi h.size) (fun ht => hs (hT i hi ht))).trans (h.block i hi hs)⟩
theorem Mod.tr {S : Nat → Prop} {a b c : World} (h : Mod S a b) (k : Mod S b c) : Mod S a c := h.trans k (fun _ _ h => h)
theorem Mod.mono {S T : Nat → Prop} {a b : World} (h : Mod S a b) (hT : ∀ i, i < a.heap.size → S i → T i) : Mod T a b :=
  ⟨h.os, h.tape, h.output, h.size, fun i hi hs => h.block i hi (fun ht => hs (hT i hi ht))⟩
theorem Mod.of_below {S : Nat → Prop} {a b : World} {B : Nat} (h : Below B a b) (hB : a.heap.size ≤ B) : Mod S a b := ⟨h.os, h.tape, h.output, h.size, fun k hk _ => h.block k (Nat.lt_of_lt_of_le hk hB)⟩
theorem Mod.on_below {S : Nat → Prop} {a b c : World} {B : Nat} (h : Mod S a b) (k : Below B b c) (hB : b.heap.size ≤ B) : Mod S a c := h.tr (Mod.of_below k hB)
theorem Mod.below {S : Nat → Prop} {a b : World} {B : Nat} (h : Mod S a b) (hB : B ≤ a.heap.size) (hs : ∀ i, i < B → ¬ S i) : Below B a b := ⟨h.os, h.tape, h.output, h.size, fun k hk => h.block k (Nat.lt_of_lt_of_le hk hB) (hs k hk)⟩
theorem Mod.drew {S : Nat → Prop} {a b : World} (h : Mod S a b) : Mod S a b.drew := ⟨h.os, h.tape, h.output, h.size, h.block⟩
theorem Mod.alloc {S : Nat → Prop} {a b : World} (h : Mod S a b) (o : Obj) : Mod S a (b.alloc o) := h.on_below ((Below.refl _ _).alloc (Nat.le_refl _) o) (Nat.le_refl _)
theorem Mod.set {S : Nat → Prop} {a b : World} (h : Mod S a b) (p : Addr) (u : Value) (hp : S p.block ∨ a.heap.size ≤ p.block) : Mod S a (b.setCell p u) :=
  ⟨h.os, h.tape, h.output, by simpa [World.setCell] using h.size, fun i hi hs => (Below.heap_setCell b p u i (by rintro rfl; rcases hp with e | e; exact hs e; omega)).trans (h.block i hi hs)⟩
theorem Mod.cell {S : Nat → Prop} {w w' : World} (h : Mod S w w') {a : Addr} {v : Value} (hc : w.cell? a = some v) (hn : ¬ S a.block) : w'.cell? a = some v := by
  have hl := World.block_lt_of_cell? w a hc
  have hb := h.block a.block hl hn
  rw [← hc]; simp [World.cell?, hb]
theorem Mod.frozen {S : Nat → Prop} {w w' : World} (h : Mod S w w') {a : Addr} {v : Value} (hc : w.cell? a = some v) (hf : w.frozen? a = false) (hn : ¬ S a.block) : w'.frozen? a = false := by
  have hl := World.block_lt_of_cell? w a hc
  have hb := h.block a.block hl hn
  rw [← hf]; simp [World.frozen?, hb]
theorem Mod.blk {S : Nat → Prop} {w w' : World} (h : Mod S w w') {k : Nat} {o : Obj} (hb : w.heap[k]? = some o) (hn : ¬ S k) : w'.heap[k]? = some o := by
  have hl : k < w.heap.size := by
    rcases Nat.lt_or_ge k w.heap.size with h | h
    · exact h
    · rw [Array.getElem?_eq_none h] at hb; cases hb
  rw [h.block k hl hn]; exact hb
theorem lt_of {w : World} {t : Addr} {v : Value} (h : w.cell? t = some v) : t.block < w.heap.size := World.block_lt_of_cell? w t h
end Go.Proofs.YtaodgnladjafoaaDoor.Md
