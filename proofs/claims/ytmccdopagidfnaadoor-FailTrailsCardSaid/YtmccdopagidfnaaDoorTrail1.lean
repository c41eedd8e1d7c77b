/- errors.As asked for a *Fault: of a wrapped error it sets the outermost wrapping, of a bare number nothing. fail.Trail. -/
import Derived.Test.YtmccdopagidfnaaDoorTrail0
set_option linter.unusedVariables false
namespace Go.Proofs.YtmccdopagidfnaaDoor.ErrF
open Go.RowKit Go.Extern.Stop Go.Stop Go.Extern
open Go.Proofs.YtmccdopagidfnaaDoor.Err (hd Wrote Laid Chain noAsE unwrapE unwrapsE mAssignable mKind mElem mImplements below_on cell_of_blk)
open Go.Proofs.YtmccdopagidfnaaDoorW.PrintWords Go.Proofs.YtmccdopagidfnaaDoorW.PrintLast Go.Proofs.YtmccdopagidfnaaDoorW.PrintMore
theorem lt_of_cell {w : World} {t : Addr} {v : Value} (h : w.cell? t = some v) : t.block < w.heap.size := World.block_lt_of_cell? w t h
set_option maxHeartbeats 4000000 in
set_option maxRecDepth 100000 in
theorem as_some (c : Addr) (t b : Addr) (old : Value) (w : World) (ht : w.cell? t = some old) (hf : w.frozen? t = false) (hb : w.cell? b = some (.pointer (some t))) :
    Calls Tryd.prog 21 #[.iface 38 (.pointer (some c)), .iface 40 (.pointer (some t)), .agg #[hd 40, .pointer (some b), .int .u64 150], .iface 62 (.agg #[hd 38])] w
      fun ev w' => ev = .returned (.bool true) ∧ Wrote w w' t (.pointer (some c)) := by
  go_enter Tryd.func21, Tryd.ntmps21
  go_wp2
  go_loopg [0] 0 (fun kq v0 w' => v0 = .iface 38 (.pointer (some c)) ∧ w' = w.alloc (.cells #[hd 40, .pointer (some b), .int .u64 150] 50))
  case atStart => exact ⟨rfl, rfl⟩
  case round =>
    obtain ⟨rfl, rfl⟩ := hrel
    have tE := goTypeOfE
    have aE := goAssEE
    have m1 := mAssignable
    have vE := goValueOfE
    have htl := lt_of_cell ht
    have hbl := lt_of_cell hb
    have eV := goElemVE b t (w.alloc (.cells #[hd 40, .pointer (some b), .int .u64 150] 50)) (by rw [World.cell?_alloc_lt _ _ b hbl]; exact hb)
    have sV := goSetE t ⟨w.heap.size + 1, 0, none⟩ c old ((w.alloc (.cells #[hd 40, .pointer (some b), .int .u64 150] 50)).alloc (.cells #[.pointer (some c)] 38))
      (by rw [World.cell?_alloc_at _ _ _ _ (by simp)]; rfl) (by rw [World.cell?_alloc_lt _ _ t (by simp; omega), World.cell?_alloc_lt _ _ t htl]; exact ht) (by rw [World.frozen?_alloc_old _ _ t (by simp; omega), World.frozen?_alloc_old _ _ t (Nat.ne_of_lt htl)]; exact hf)
    go_wp2_with fail
    go_ret
    exact ⟨rfl, _, ((Below.refl _ _).alloc (Nat.le_refl _) _).alloc (by simp) _, rfl⟩
set_option maxHeartbeats 4000000 in
set_option maxRecDepth 100000 in
theorem as_none (n : Int) (x y : Value) (w : World) :
    Calls Tryd.prog 21 #[.iface 35 (.int .i64 n), x, .agg #[hd 40, y, .int .u64 150], .iface 62 (.agg #[hd 38])] w
      fun ev w' => ev = .returned (.bool false) ∧ Below w.heap.size w w' := by
  go_enter Tryd.func21, Tryd.ntmps21
  go_wp2
  go_loopg [0] 0 (fun kq v0 w' => v0 = .iface 35 (.int .i64 n) ∧ w' = w.alloc (.cells #[hd 40, y, .int .u64 150] 50))
  case atStart => exact ⟨rfl, rfl⟩
  case round =>
    obtain ⟨rfl, rfl⟩ := hrel
    have tF := goTypeOfF
    have aF := goAssFE
    have m1 := mAssignable
    have nE := noAsE
    have uE := unwrapE
    have usE := unwrapsE
    go_wp2_with fail
    go_ret
    exact ⟨rfl, (Below.refl _ _).alloc (Nat.le_refl _) _⟩
/-- errors.As, ahead of errors.as: the world in which that is called -/
abbrev asW (w : World) (t : Addr) : World := (w.alloc (.cells #[.pointer (some t)] 40)).alloc (.cells #[hd 40, .pointer (some ⟨w.heap.size, 0, none⟩), .int .u64 150] 50)
theorem asW_below (w : World) (t : Addr) : Below w.heap.size w (asW w t) := ((Below.refl _ _).alloc (Nat.le_refl _) _).alloc (by simp) _
theorem asW_cell (w : World) (t : Addr) : (asW w t).cell? ⟨w.heap.size, 0, none⟩ = some (.pointer (some t)) := by
  rw [World.cell?_alloc_lt _ _ ⟨w.heap.size, 0, none⟩ (by simp)]; simp
set_option maxHeartbeats 4000000 in
set_option maxRecDepth 100000 in
theorem As_some (c : Addr) (t : Addr) (old : Value) (w : World) (hg : Hid (Laid w)) (ht : Hid (w.cell? t = some old)) (hf : Hid (w.frozen? t = false)) :
    Calls Tryd.prog 15 #[.iface 38 (.pointer (some c)), .iface 40 (.pointer (some t))] w fun ev w' => ev = .returned (.bool true) ∧ Wrote w w' t (.pointer (some c)) := by
  have v1 := goValueOfPE
  have v2 := goTypePE
  have v3 := goKindPE
  have v4 := goKindE
  have v5 := goElemPE
  have v6 := goImplE
  have m1 := mKind
  have m2 := mElem
  have m3 := mImplements
  have htl := lt_of_cell ht.out
  have n8 := goIsNilPE ⟨w.heap.size, 0, none⟩ t (asW w t) (asW_cell w t)
  have hg2 : (asW w t).cell? ⟨0, 0, none⟩ = some (.iface 62 (.agg #[hd 25])) := hg.out.on (asW_below w t)
  have ht2 := Lib.hid (((asW_below w t).cell htl).trans ht.out)
  have hf2 := Lib.hid (((asW_below w t).frozen htl).trans hf.out)
  go_enter Tryd.func15, Tryd.ntmps15
  go_wp2_with fail
  refine (as_some c t ⟨w.heap.size, 0, none⟩ old _ ht2.out hf2.out (asW_cell w t)).mono ?_
  rintro ev w' ⟨rfl, hw⟩
  have HW := Lib.hid (hw.on (asW_below w t))
  clear hw
  go_wp2_with fail
  go_ret
  exact ⟨rfl, HW.out⟩
set_option maxHeartbeats 4000000 in
set_option maxRecDepth 100000 in
theorem As_none (n : Int) (t : Addr) (w : World) (hg : Hid (Laid w)) :
    Calls Tryd.prog 15 #[.iface 35 (.int .i64 n), .iface 40 (.pointer (some t))] w fun ev w' => ev = .returned (.bool false) ∧ Below w.heap.size w w' := by
  have v1 := goValueOfPE
  have v2 := goTypePE
  have v3 := goKindPE
  have v4 := goKindE
  have v5 := goElemPE
  have v6 := goImplE
  have m1 := mKind
  have m2 := mElem
  have m3 := mImplements
  have n8 := goIsNilPE ⟨w.heap.size, 0, none⟩ t (asW w t) (asW_cell w t)
  have hg2 : (asW w t).cell? ⟨0, 0, none⟩ = some (.iface 62 (.agg #[hd 25])) := hg.out.on (asW_below w t)
  go_enter Tryd.func15, Tryd.ntmps15
  go_wp2_with fail
  refine (as_none n _ _ _).mono ?_
  rintro ev w' ⟨rfl, hw⟩
  have HW := below_on (Lib.hid (asW_below w t)) (Nat.le_refl _) hw
  clear hw
  go_wp2_with fail
  go_ret
  exact ⟨rfl, HW.out⟩
theorem info_str : (Tryd.prog.info? 9).map (fun i => (i.zero, i.size, i.bytes)) = some (some (.string ByteArray.empty), 1, 16) := by kernel_rfl
/-- between the rounds of Trail: the row that is made is its own, the variable f lies beside it -/
def Mid (w w' : World) (v : Value) (xs : List ByteArray) : Prop :=
  Kd.string.R 9 w' w.heap.size (fun k => k ≠ w.heap.size) v xs ∧ Below w.heap.size w w' ∧ (∃ old, w'.cell? ⟨w.heap.size, 0, none⟩ = some old) ∧ w'.frozen? ⟨w.heap.size, 0, none⟩ = false
theorem Wrote.keep {w w' : World} {t : Addr} {x : Value} (h : Wrote w w' ⟨t.block, t.off, none⟩ x) : KeepBut w w' t.block none := by
  obtain ⟨w1, h1, rfl⟩ := h
  exact (KeepBut.of_below h1 _ _).set_ _ _
theorem Mid.start (w : World) (o : Obj) (x : Value) (h : o = .cells #[x] 38 (0, 0)) : Mid w (w.alloc o) (.slice none 0 0) [] := by
  subst h
  exact ⟨Kd.R_nil _ _ _ _ _, (Below.refl _ _).alloc (Nat.le_refl _) _, ⟨x, by simp⟩, by simp⟩
theorem Mid.wrote {w w1 w2 : World} {v x : Value} {xs : List ByteArray} (h : Mid w w1 v xs) (hw : Wrote w1 w2 ⟨w.heap.size, 0, none⟩ x) : Mid w w2 v xs ∧ w2.cell? ⟨w.heap.size, 0, none⟩ = some x := by
  obtain ⟨h1, h2, ⟨old, h3⟩, h4⟩ := h
  have hc := hw.cell h3
  refine ⟨⟨Kd.R_keep h1 (Wrote.keep (t := ⟨w.heap.size, 0, none⟩) hw) (fun _ hk => hk), hw.below h2 (Nat.le_refl _), ⟨x, hc⟩, ?_⟩, hc⟩
  obtain ⟨w3, hb, rfl⟩ := hw
  have hl := lt_of_cell h3
  have e := (hb.frozen (p := ⟨w.heap.size, 0, none⟩) hl).trans h4
  simpa using e
theorem Mid.grown {w w1 w2 : World} {v v2 : Value} {xs ys : List ByteArray} (h : Mid w w1 v xs) (ho : Kd.string.R 9 w2 w.heap.size (fun k => k ≠ w.heap.size) v2 ys) (hb : Below w.heap.size w w2) (hg : w1.grownBy w2 v.ownBlock) : Mid w w2 v2 ys := by
  obtain ⟨h1, h2, ⟨old, h3⟩, h4⟩ := h
  have hl := lt_of_cell h3
  have hne : some w.heap.size ≠ v.ownBlock := fun e => h1.1 _ e.symm rfl
  have hbk := hg.block w.heap.size hl hne
  refine ⟨ho, hb, ⟨old, ?_⟩, ?_⟩
  · rw [← h3]; simp [World.cell?, hbk]
  · rw [← h4]; simp [World.frozen?, hbk]
end Go.Proofs.YtmccdopagidfnaaDoor.ErrF
