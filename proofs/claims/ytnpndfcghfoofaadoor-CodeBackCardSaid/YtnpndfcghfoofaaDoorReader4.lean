/- Reader.safe around a closure that returns and changes the reader and one variable alone: what it does is kept, no error. -/
import Derived.Test.YtnpndfcghfoofaaDoorReader3
import Derived.Test.YtnpndfcghfoofaaDoorMod
set_option linter.unusedVariables false
namespace Go.Proofs.YtnpndfcghfoofaaDoor.Rdr
open Go.RowKit Go.Proofs.YtnpndfcghfoofaaDoorW.PrintWords Go.Proofs.YtnpndfcghfoofaaDoorW.PrintLast Go.Proofs.YtnpndfcghfoofaaDoorW.PrintMore Go.Proofs.YtnpndfcghfoofaaDoor.CdM Go.Proofs.YtnpndfcghfoofaaDoor.Md
theorem But.mod {w w' : World} {R : Nat} (h : But w w' R) : Mod (· = R) w w' := ⟨h.1.os, h.1.tape, h.1.output, h.2.1, fun i hi hs => h.2.2 i hi hs (by simp)⟩
theorem Has.mod {w w' : World} {R : Nat} {s : ByteArray} {p : Nat} {S : Nat → Prop} (h : Has w R s p) (k : Mod S w w') (hn : ¬ S R) : Has w' R s p := k.blk h hn
set_option maxHeartbeats 4000000 in
set_option maxRecDepth 100000 in
theorem safe_any (F : Nat) (caps : Array Value) (R : Nat) (s : ByteArray) (p p' : Nat) (nc : Addr) (v : Value) (w : World) (h : Hid (Has w R s p)) (hnl : nc.block < w.heap.size) (nn : nc.block ≠ R)
    (hcf : ∀ w : World, (callFunc F caps).run Tryd.prog w = .ok (.enter F caps) w) (hF : ∀ w3, Below w.heap.size w w3 → Calls Tryd.prog F caps w3 fun ev w' => ev = .returned (.tuple #[]) ∧ Mod (fun i => i = R ∨ i = nc.block) w3 w' ∧ Has w' R s p' ∧ w'.cell? nc = some v) :
    Calls Tryd.prog 21 #[.pointer (some ⟨R, 0, none⟩), .func (.func F) #[] caps] w fun ev w' => ev = .returned .nilIface ∧ Mod (fun i => i = R ∨ i = nc.block) w w' ∧ Has w' R s p' ∧ w'.cell? nc = some v := by
  have hmf : ∀ (fn : Fn) (first cap : Array Value) (w : World), (Instr.makeFunc fn first cap).run Tryd.prog w = .ok (.func fn first cap) w := fun _ _ _ _ => rfl
  have hRl : R < w.heap.size := Err.lt_of_block h.out
  have hW : Below w.heap.size w ((w.alloc (.cells #[.pointer (some ⟨R, 0, none⟩)] 38)).alloc (.cells #[.nilIface] 29)) := ((Below.refl _ _).alloc (Nat.le_refl _) _).alloc (by simp) _
  have h1 := (hW.cell (p := ⟨R, 1, none⟩) hRl).trans h.out.c1
  clear hW
  go_enter_defers Tryd.func21, Tryd.ntmps21
  go_wp2_with fail
  have hW3 : Below w.heap.size w (((w.alloc (.cells #[.pointer (some ⟨R, 0, none⟩)] 38)).alloc (.cells #[.nilIface] 29)).alloc (.cells #[.int .i64 (p : Int)] 3)) := (((Below.refl _ _).alloc (Nat.le_refl _) _).alloc (by simp) _).alloc (by simp; omega) _
  have hE3 := Lib.hid (show (((w.alloc (.cells #[.pointer (some ⟨R, 0, none⟩)] 38)).alloc (.cells #[.nilIface] 29)).alloc (.cells #[.int .i64 (p : Int)] 3)).cell? ⟨w.heap.size + 1, 0, none⟩ = some .nilIface from by rw [World.cell?_alloc_lt _ _ _ (by simp)]; rw [World.cell?_alloc_at _ _ _ _ (by simp)]; rfl)
  have hF3 := Lib.hid (show (((w.alloc (.cells #[.pointer (some ⟨R, 0, none⟩)] 38)).alloc (.cells #[.nilIface] 29)).alloc (.cells #[.int .i64 (p : Int)] 3)).frozen? ⟨w.heap.size + 1, 0, none⟩ = false from by rw [World.frozen?_alloc_old _ _ _ (by simp)]; simp)
  have hM3 := Lib.hid (Mod.of_below (S := fun i => i = R ∨ i = nc.block) hW3 (Nat.le_refl _))
  refine (hF _ hW3).mono ?_
  rintro e w4 ⟨rfl, hb4, hh4, hv4⟩
  have he : w4.cell? ⟨w.heap.size + 1, 0, none⟩ = some .nilIface := hb4.cell hE3.out (by rintro (e | e) <;> simp at e <;> omega)
  have hfz : w4.frozen? ⟨w.heap.size + 1, 0, none⟩ = false := hb4.frozen hE3.out hF3.out (by rintro (e | e) <;> simp at e <;> omega)
  have hB := Lib.hid hb4
  have hH := Lib.hid hh4
  have hV := Lib.hid hv4
  clear hb4 hh4 hv4
  go_wp2_with fail
  refine leaves_cons (f := 30) (args := #[.pointer (some ⟨w.heap.size + 1 + 1, 0, none⟩), .pointer (some ⟨w.heap.size, 0, none⟩), .pointer (some ⟨w.heap.size + 1, 0, none⟩)]) (by simp) (by simp [go_sem]) ?_
  refine (catch_idle _ _ _ _).mono ?_
  rintro e u' w'' ⟨rfl, rfl, rfl⟩
  simp [Leaves, settle, results, Tryd.results21, go_sem, he]
  have hM4 := hM3.out.tr hB.out
  refine ⟨hM4.set _ _ (.inr (by simp)), hH.out.mod (Mod.set (S := (· = w.heap.size + 1)) (Mod.refl _ _) _ _ (.inl rfl)) (by omega), ?_⟩
  rw [World.cell?_setCell_other _ _ _ _ (by intro h; have := congrArg Addr.block h; simp at this; omega)]
  exact hV.out
end Go.Proofs.YtnpndfcghfoofaaDoor.Rdr
