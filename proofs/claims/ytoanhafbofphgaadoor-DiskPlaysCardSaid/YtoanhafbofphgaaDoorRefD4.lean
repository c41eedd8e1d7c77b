/- The document's Settle of a disk: its state. -/
import Derived.Test.YtoanhafbofphgaaDoorRefD3
set_option linter.unusedVariables false
set_option linter.unusedSimpArgs false
namespace Go.Proofs.YtoanhafbofphgaaDoor.Rfd
open Go.RowKit Go.Proofs.YtoanhafbofphgaaDoorW.PrintWords Go.Proofs.YtoanhafbofphgaaDoorW.PrintLast Go.Proofs.YtoanhafbofphgaaDoorW.PrintMore Go.Proofs.YtoanhafbofphgaaDoor.Md Go.Proofs.YtoanhafbofphgaaDoor.Dk
open Go.Extern.Stop (cell)
open Go.Proofs.YtoanhafbofphgaaDoor.Err (Laid IsErr code_nil Chain at_some at_nil)
theorem r_modb {α : Type} {d : Kd α} {e base : Nat} {w w' : World} {ok : Nat → Prop} {v : Value} {xs : List α} {S : Nat → Prop} (h : d.R e w base ok v xs) (k : Mod S w w') (hn : ∀ i cells, w.heap[i]? = some (.cells cells e (0, 0)) → ¬ S i) (hM : ∀ x cs ok', d.M w base ok' x cs → d.M w' base ok' x cs) : d.R e w' base ok v xs := by
  obtain ⟨h0, inner, ho, hr⟩ := h
  exact ⟨h0, inner, own_move ho (fun i hi => k.block i (own_lt ho i hi) (by obtain ⟨cells, hc⟩ := own_typed ho i hi; exact hn i cells hc)), hr.imp_ (fun _ _ hp => hM _ _ _ hp)⟩
theorem typed_ne {w : World} {i : Nat} {c1 c2 : Array Value} {t1 t2 : TypeId} (h1 : w.heap[i]? = some (.cells c1 t1 (0, 0))) (h2 : w.heap[i]? = some (.cells c2 t2 (0, 0))) (hne : t1 ≠ t2) : False := by
  rw [h1] at h2
  injection h2 with h2; injection h2 with _ h2 _
  exact hne h2
/-- what an append to a row leaves: blocks of another type -/
theorem grown_keep {α : Type} {d : Kd α} {e base : Nat} {W w1 : World} {ok : Nat → Prop} {v : Value} {xs : List α} (h : d.R e W base ok v xs) (hg : W.grownBy w1 v.ownBlock) {X : Nat} {cs : Array Value} {t : TypeId} (hx : W.heap[X]? = some (.cells cs t (0, 0))) (hne : t ≠ e) : w1.heap[X]? = some (.cells cs t (0, 0)) :=
  (hg.block X (Err.lt_of_block hx) (fun e' => by
    obtain ⟨h0, inner, ho, hr⟩ := h
    obtain ⟨cells, hc⟩ := own_typed ho X e'.symm
    exact typed_ne hx hc hne)).trans hx
theorem grown_row {α β : Type} {d : Kd α} {d1 : Kd β} {e e1 base : Nat} {W w1 : World} {ok ok1 : Nat → Prop} {v v1 : Value} {xs : List α} {xs1 : List β} (h1 : d1.R e1 W base ok1 v1 xs1) (h : d.R e W base ok v xs) (hg : W.grownBy w1 v.ownBlock) (hne : e1 ≠ e) (hM : ∀ x cs ok', d1.M W base ok' x cs → d1.M w1 base ok' x cs) : d1.R e1 w1 base ok1 v1 xs1 :=
  r_modb h1 (mod_grown (S := fun k => v.ownBlock = some k) hg (fun _ h => h)) (fun i cells hc e' => by
    obtain ⟨h0, inner, ho, hr⟩ := h
    obtain ⟨cells2, hc2⟩ := own_typed ho i e'
    exact typed_ne hc hc2 hne) hM
/-- Settle's state: the disk handed in, the result's place, the new disk and its rows -/
structure Ou (w wr : World) (D Z O : Nat) (r ro : RV) (vx vy vz : Value) (X : List Int) (Y : List Pg) (B : List Bool) : Prop where
  bel : Below w.heap.size w wr
  dd : wr.heap[D]? = some (Obj.cells r.a 49 (0, 0))
  zz : wr.heap[Z]? = some (Obj.cells RV.zero.a 49 (0, 0))
  oo : wr.heap[O]? = some (Obj.cells ro.a 49 (0, 0))
  x : (Kd.int .i64).R 3 wr w.heap.size (fun _ => True) vx X
  y : pk.R 29 wr w.heap.size (fun _ => True) vy Y
  z : Kd.bool.R 4 wr w.heap.size (fun _ => True) vz B
section
variable {w wr w1 : World} {D Z O : Nat} {r ro : RV} {vx vy vz v1 : Value} {X X1 : List Int} {Y Y1 : List Pg} {B B1 : List Bool}
theorem Ou.on (h : Ou w wr D Z O r ro vx vy vz X Y B) (k : Below wr.heap.size wr w1) : Ou w w1 D Z O r ro vx vy vz X Y B :=
  ⟨h.bel.trans (k.mono h.bel.size), (k.block _ (Err.lt_of_block h.dd)).trans h.dd, (k.block _ (Err.lt_of_block h.zz)).trans h.zz, (k.block _ (Err.lt_of_block h.oo)).trans h.oo, Kd.R_below h.x k, Kd.R_below h.y k, Kd.R_below h.z k⟩
theorem Ou.growX (h : Ou w wr D Z O r ro vx vy vz X Y B) (hg : wr.grownBy w1 vx.ownBlock) (hb : Below w.heap.size w w1) (h1 : (Kd.int .i64).R 3 w1 w.heap.size (fun _ => True) v1 X1) : Ou w w1 D Z O r ro v1 vy vz X1 Y B :=
  ⟨hb, grown_keep h.x hg h.dd (by decide), grown_keep h.x hg h.zz (by decide), grown_keep h.x hg h.oo (by decide), h1, grown_row h.y h.x hg (by decide) (fun _ _ _ h => h), grown_row h.z h.x hg (by decide) (fun _ _ _ h => h)⟩
theorem Ou.growY (h : Ou w wr D Z O r ro vx vy vz X Y B) (hg : wr.grownBy w1 vy.ownBlock) (hb : Below w.heap.size w w1) (h1 : pk.R 29 w1 w.heap.size (fun _ => True) v1 Y1) : Ou w w1 D Z O r ro vx v1 vz X Y1 B :=
  ⟨hb, grown_keep h.y hg h.dd (by decide), grown_keep h.y hg h.zz (by decide), grown_keep h.y hg h.oo (by decide), grown_row h.x h.y hg (by decide) (fun _ _ _ h => h), h1, grown_row h.z h.y hg (by decide) (fun _ _ _ h => h)⟩
theorem Ou.growZ (h : Ou w wr D Z O r ro vx vy vz X Y B) (hg : wr.grownBy w1 vz.ownBlock) (hb : Below w.heap.size w w1) (h1 : Kd.bool.R 4 w1 w.heap.size (fun _ => True) v1 B1) : Ou w w1 D Z O r ro vx vy v1 X Y B1 :=
  ⟨hb, grown_keep h.z hg h.dd (by decide), grown_keep h.z hg h.zz (by decide), grown_keep h.z hg h.oo (by decide), grown_row h.x h.z hg (by decide) (fun _ _ _ h => h), grown_row h.y h.z hg (by decide) (fun _ _ _ h => h), h1⟩
/-- a store into the new disk -/
theorem Ou.set (h : Ou w wr D Z O r ro vx vy vz X Y B) (j : Nat) (u : Value) (r2 : RV) (e : ro.a.setIfInBounds j u = r2.a) (hD : D ≠ O) (hZ : Z ≠ O) (hw : w.heap.size ≤ O) : Ou w (wr.setCell ⟨O, j, none⟩ u) D Z O r r2 vx vy vz X Y B := by
  have hm : Mod (· = O) wr (wr.setCell ⟨O, j, none⟩ u) := mod_set wr O j u
  exact ⟨h.bel.trans (hm.below h.bel.size (fun i hi (e : i = O) => by omega)), hm.blk h.dd hD, hm.blk h.zz hZ, rv_set (Lib.hid h.oo) j u e,
    r_modb h.x hm (fun i c hc (e : i = O) => by subst e; exact typed_ne hc h.oo (by decide)) (fun _ _ _ h => h),
    r_modb h.y hm (fun i c hc (e : i = O) => by subst e; exact typed_ne hc h.oo (by decide)) (fun _ _ _ h => h),
    r_modb h.z hm (fun i c hc (e : i = O) => by subst e; exact typed_ne hc h.oo (by decide)) (fun _ _ _ h => h)⟩
end
theorem readsIk (w : World) (g : Nat) (p : Int) (h : w.heap[g]? = some (.cells #[.int .i64 p] 3 (0, 0))) : ReadsRow (fun (x : Int) cs => cs = [Value.int .i64 x]) (Kd.int .i64).sz w (some ⟨g, 0, none⟩) 1 [p] := by
  refine ⟨rfl, by decide, fun _ => ⟨_, rfl, fun j y hj => ?_⟩⟩
  have h0 : j = 0 ∧ y = p := by
    rcases j with _ | j
    · simp at hj; exact ⟨rfl, hj.symm⟩
    · simp at hj
  obtain ⟨rfl, rfl⟩ := h0
  refine ⟨[.int .i64 y], rfl, rfl, fun i u hu => ?_⟩
  rw [Addr.add_mid, cell_of_row _ _ _ _ _ _ h, ← hu]
  rcases i with _ | i
  · simp
  · simp at hu
/-- the writes kept of the first k -/
def got (F S : List (Int × Pg)) (mask k : Nat) : List (Int × Pg) := F.take k ++ kept mask (S.take (k - F.length)) 0
theorem got_firm (F S : List (Int × Pg)) (mask k : Nat) (h : k < F.length) (x : Int × Pg) (hx : (F ++ S)[k]? = some x) : got F S mask (k + 1) = got F S mask k ++ [x] := by
  rw [List.getElem?_append_left h, List.getElem?_eq_getElem h] at hx
  have e : F[k] = x := by simpa using hx
  unfold got
  rw [show k + 1 - F.length = 0 by omega, show k - F.length = 0 by omega, List.take_succ_eq_append_getElem h, e]
  simp [kept]
theorem got_soft (F S : List (Int × Pg)) (mask k : Nat) (h : ¬ k < F.length) (x : Int × Pg) (hx : (F ++ S)[k]? = some x) : got F S mask (k + 1) = got F S mask k ++ (if bit mask (k - F.length) = true then [x] else []) := by
  rw [List.getElem?_append_right (by omega)] at hx
  obtain ⟨hs, e⟩ := List.getElem?_eq_some_iff.1 hx
  have e1 : F.take (k + 1) = F := List.take_of_length_le (by omega)
  have e2 : F.take k = F := List.take_of_length_le (by omega)
  have e3 : (S.take (k - F.length)).length = k - F.length := by rw [List.length_take]; omega
  unfold got
  rw [e1, e2, show k + 1 - F.length = k - F.length + 1 by omega, List.take_succ_eq_append_getElem hs, kept_snoc, Nat.zero_add, e3, e, List.append_assoc]
theorem got_zero (F S : List (Int × Pg)) (mask : Nat) : got F S mask 0 = [] := by
  unfold got; rw [show 0 - F.length = 0 by omega]; simp [kept]
theorem got_all (F S : List (Int × Pg)) (mask : Nat) : got F S mask (F ++ S).length = F ++ kept mask S 0 := by
  have e : (F ++ S).length - F.length = S.length := by rw [List.length_append]; omega
  unfold got
  rw [e, List.take_length, List.take_of_length_le (by rw [List.length_append]; omega)]
theorem got_len (F S : List (Int × Pg)) (mask k : Nat) : (got F S mask k).length ≤ k := by
  have hk : ∀ (l : List (Int × Pg)) (n : Nat), (kept mask l n).length ≤ l.length := by
    intro l
    induction l with
    | nil => intro n; simp [kept]
    | cons x l ih =>
      intro n
      have := ih (n + 1)
      simp only [kept, List.length_append, List.length_cons]
      split <;> simp <;> omega
  have h1 := hk (S.take (k - F.length)) 0
  unfold got
  rw [List.length_append, List.length_take]
  rw [List.length_take] at h1
  omega
theorem fi_at (d : RD) (k : Nat) (h : k < d.fi.length) : d.fi[k] = decide (k < d.F.length) := by
  have e : d.fi[k]? = some (decide (k < d.F.length)) := by
    have hl := d.fi_length
    unfold RD.fi
    by_cases hk : k < d.F.length
    · rw [List.getElem?_append_left (by simpa using hk), List.getElem?_replicate, if_pos hk, decide_eq_true hk]
    · have h2 : k < d.F.length + d.S.length := by simp [RD.L] at hl; omega
      rw [List.getElem?_append_right (by simpa using hk), List.getElem?_replicate, List.length_replicate, if_pos (by omega), decide_eq_false hk]
  rw [List.getElem?_eq_getElem h] at e
  simpa using e
end Go.Proofs.YtoanhafbofphgaaDoor.Rfd
