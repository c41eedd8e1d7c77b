/- What errors.As answers of an error that is a number, wrapped any number of times, asked for a number: it sets it. fail.Code, fail.At. -/
import Derived.Test.YtpijilfkmkdghaaDoorErr0
import Derived.Deep.LoopGhost
set_option linter.unusedVariables false
namespace Go.Proofs.YtpijilfkmkdghaaDoor.Err
open Go.RowKit Go.Extern.Stop Go.Stop Go.Extern
theorem cell_of_blk {w : World} {b : Nat} {cs : Array Value} {t : TypeId} (h : w.heap[b]? = some (Obj.cells cs t (0, 0))) (i : Nat) : w.cell? ⟨b, i, none⟩ = cs[i]? := cell_of_row w b i cs t (0, 0) h
theorem unwrap_c (b : Nat) (op path : ByteArray) (e : Value) (w : World) (hb : w.heap[b]? = some (Obj.cells #[.string op, .string path, e] 78 (0, 0))) :
    Calls Tryd.prog 73 #[.pointer (some ⟨b, 0, none⟩)] w fun ev w' => ev = .returned e ∧ w' = w := by
  have hc : w.cell? ⟨b, 2, none⟩ = some e := cell_of_blk hb 2
  clear hb
  go_enter Tryd.func73, Tryd.ntmps73
  go_wp2
  go_ret
  exact ⟨rfl, rfl⟩
theorem at_nil (op path : ByteArray) (w : World) : Calls Tryd.prog 22 #[.string op, .string path, .nilIface] w fun ev w' => ev = .returned .nilIface ∧ w' = w := by
  go_enter Tryd.func22, Tryd.ntmps22
  go_wp2
  go_ret
  exact ⟨rfl, rfl⟩
theorem at_some (op path : ByteArray) (T : TypeId) (x : Value) (w : World) : Calls Tryd.prog 22 #[.string op, .string path, .iface T x] w fun ev w' => ev = .returned (.iface 76 (.pointer (some ⟨w.heap.size, 0, none⟩))) ∧ w' = w.alloc (.cells #[.string op, .string path, .iface T x] 78) := by
  go_enter Tryd.func22, Tryd.ntmps22
  go_wp2
  go_ret
  exact ⟨rfl, rfl⟩
/-- behind errors.as: one cell written -/
def Wrote (w w' : World) (t : Addr) (x : Value) : Prop := ∃ w1, Below w.heap.size w w1 ∧ w' = w1.setCell t x
set_option maxHeartbeats 4000000 in
set_option maxRecDepth 100000 in
theorem as_num (v : Value) (n : Int) (l : List (ByteArray × ByteArray)) (t b : Addr) (old : Value) (w : World) (hch : Hid (Chain w v n l)) (ht : w.cell? t = some old) (hf : w.frozen? t = false) (hb : w.cell? b = some (.pointer (some t))) :
    Calls Tryd.prog 40 #[v, .iface 63 (.pointer (some t)), .agg #[hd 63, .pointer (some b), .int .u64 150], .iface 104 (.agg #[hd 59])] w
      fun ev w' => ev = .returned (.bool true) ∧ Wrote w w' t (.int .i64 n) := by
  go_enter Tryd.func40, Tryd.ntmps40
  have h1 : Hid (Chain (w.alloc (.cells #[hd 63, .pointer (some b), .int .u64 150] 83)) v n l) := hch.out.on ((Below.refl _ _).alloc (Nat.le_refl _) _)
  go_wp2
  go_loopg [0] l.length (fun kq v0 w' => ∃ l' : List (ByteArray × ByteArray), Hid (l'.length = kq) ∧ Hid (Chain w' v0 n l') ∧ w' = w.alloc (.cells #[hd 63, .pointer (some b), .int .u64 150] 83))
  case atStart => exact ⟨l, rfl, h1, rfl⟩
  case round =>
    clear h1
    obtain ⟨l', hl, hc, rfl⟩ := hrel
    cases hc.out with
    | base =>
      clear hc hl hch
      have tE := goTypeOfE
      have aE := goAssEE
      have m1 := mAssignable
      have vE := goValueOfE
      have htl : t.block < w.heap.size := by
        rcases Nat.lt_or_ge t.block w.heap.size with h | h
        · exact h
        · simp [World.cell?, Array.getElem?_eq_none h] at ht
      have hbl : b.block < w.heap.size := by
        rcases Nat.lt_or_ge b.block w.heap.size with h | h
        · exact h
        · simp [World.cell?, Array.getElem?_eq_none h] at hb
      have eV := goElemVE b t (w.alloc (.cells #[hd 63, .pointer (some b), .int .u64 150] 83)) (by rw [World.cell?_alloc_lt _ _ b hbl]; exact hb)
      have sV := goSetE t ⟨w.heap.size + 1, 0, none⟩ n old ((w.alloc (.cells #[hd 63, .pointer (some b), .int .u64 150] 83)).alloc (.cells #[.int .i64 n] 59))
        (by rw [World.cell?_alloc_at _ _ _ _ (by simp)]; rfl) (by rw [World.cell?_alloc_lt _ _ t (by simp; omega), World.cell?_alloc_lt _ _ t htl]; exact ht) (by rw [World.frozen?_alloc_old _ _ t (by simp; omega), World.frozen?_alloc_old _ _ t (Nat.ne_of_lt htl)]; exact hf)
      go_wp2_with fail
      go_ret
      exact ⟨rfl, _, ((Below.refl _ _).alloc (Nat.le_refl _) _).alloc (by simp) _, rfl⟩
    | wrap c op path e _ l2 hblk hnext =>
      obtain ⟨T, x, rfl⟩ := hnext.iface
      have HN := Lib.hid hnext
      have HK := Lib.hid hblk
      clear hnext hblk hc
      have tF := goTypeOfF
      have aF := goAssFE
      have nF := noAsF
      have uF := unwrapF
      have m1 := mAssignable
      have m2 := mUnwrap
      cases gk with
      | zero => exact absurd hl.out (by simp)
      | succ k1 =>
        go_wp2_with fail
        refine (unwrap_c c op path (.iface T x) _ HK.out).mono ?_
        rintro ev w' ⟨rfl, rfl⟩
        go_wp2_with fail
        go_roundg k1
        case measure => exact Nat.lt_succ_self _
        case rel => exact ⟨l2, Lib.hid (by have := hl.out; simpa using this), HN, rfl⟩
theorem Wrote.cell {w w' : World} {t : Addr} {x old : Value} (h : Wrote w w' t x) (ht : w.cell? t = some old) : w'.cell? t = some x := by
  obtain ⟨w1, h1, rfl⟩ := h
  have htl : t.block < w.heap.size := by
    rcases Nat.lt_or_ge t.block w.heap.size with h | h
    · exact h
    · simp [World.cell?, Array.getElem?_eq_none h] at ht
  exact World.cell?_setCell_same w1 t x ((h1.cell htl).trans ht)
theorem Wrote.below {w0 w w' : World} {t : Addr} {x : Value} (h : Wrote w w' t x) (hb : Below w0.heap.size w0 w) (ht : w0.heap.size ≤ t.block) : Below w0.heap.size w0 w' := by
  obtain ⟨w1, h1, rfl⟩ := h
  exact (hb.trans (h1.mono hb.size)).setCell ht x
theorem Wrote.on {w0 w w' : World} {t : Addr} {x : Value} (h : Wrote w w' t x) (hb : Below w0.heap.size w0 w) : Wrote w0 w' t x := by
  obtain ⟨w1, h1, rfl⟩ := h
  exact ⟨w1, hb.trans (h1.mono hb.size), rfl⟩
set_option maxHeartbeats 4000000 in
set_option maxRecDepth 100000 in
theorem As_num (v : Value) (n : Int) (l : List (ByteArray × ByteArray)) (t : Addr) (old : Value) (w : World) (hch : Hid (Chain w v n l)) (hg : w.cell? ⟨0, 0, none⟩ = some (.iface 104 (.agg #[hd 43]))) (ht : w.cell? t = some old) (hf : w.frozen? t = false) :
    Calls Tryd.prog 25 #[v, .iface 63 (.pointer (some t))] w fun ev w' => ev = .returned (.bool true) ∧ Wrote w w' t (.int .i64 n) := by
  obtain ⟨T, x, rfl⟩ := hch.out.iface
  have v1 := goValueOfPE
  have v2 := goTypePE
  have v3 := goKindPE
  have v4 := goKindE
  have v5 := goElemPE
  have v6 := goImplE
  have m1 := mKind
  have m2 := mElem
  have m3 := mImplements
  have hlt : 0 < w.heap.size := by
    rcases Nat.eq_zero_or_pos w.heap.size with h0 | h
    · simp [World.cell?, h0] at hg
    · exact h
  have htl : t.block < w.heap.size := by
    rcases Nat.lt_or_ge t.block w.heap.size with h | h
    · exact h
    · simp [World.cell?, Array.getElem?_eq_none h] at ht
  have n8 := goIsNilPE ⟨w.heap.size, 0, none⟩ t ((w.alloc (.cells #[.pointer (some t)] 63)).alloc (.cells #[hd 63, .pointer (some ⟨w.heap.size, 0, none⟩), .int .u64 150] 83)) (by rw [World.cell?_alloc_lt _ _ ⟨w.heap.size, 0, none⟩ (by simp)]; simp)
  have hg2 : ((w.alloc (.cells #[.pointer (some t)] 63)).alloc (.cells #[hd 63, .pointer (some ⟨w.heap.size, 0, none⟩), .int .u64 150] 83)).cell? ⟨0, 0, none⟩ = some (.iface 104 (.agg #[hd 43])) := by
    rw [World.cell?_alloc_lt _ _ ⟨0, 0, none⟩ (by simp), World.cell?_alloc_lt _ _ ⟨0, 0, none⟩ hlt]; exact hg
  have hB : Below w.heap.size w ((w.alloc (.cells #[.pointer (some t)] 63)).alloc (.cells #[hd 63, .pointer (some ⟨w.heap.size, 0, none⟩), .int .u64 150] 83)) := ((Below.refl _ _).alloc (Nat.le_refl _) _).alloc (by simp) _
  have HB := Lib.hid hB
  have hch2 : Hid (Chain ((w.alloc (.cells #[.pointer (some t)] 63)).alloc (.cells #[hd 63, .pointer (some ⟨w.heap.size, 0, none⟩), .int .u64 150] 83)) (.iface T x) n l) := hch.out.on hB
  have ht2 := Lib.hid ((hB.cell htl).trans ht)
  have hf2 := Lib.hid ((hB.frozen htl).trans hf)
  clear hB
  go_enter Tryd.func25, Tryd.ntmps25
  go_wp2_with fail
  refine (as_num (.iface T x) n l t ⟨w.heap.size, 0, none⟩ old _ hch2 ht2.out hf2.out (by rw [World.cell?_alloc_lt _ _ ⟨w.heap.size, 0, none⟩ (by simp)]; simp)).mono ?_
  rintro ev w' ⟨rfl, hw⟩
  have HW := Lib.hid (hw.on HB.out)
  clear hw
  go_wp2_with fail
  go_ret
  exact ⟨rfl, HW.out⟩
theorem code_nil (w : World) : Calls Tryd.prog 14 #[.nilIface] w fun ev w' => ev = .returned (.int .i64 0) ∧ Below w.heap.size w w' := by
  go_enter Tryd.func14, Tryd.ntmps14
  go_wp2
  go_ret
  exact ⟨rfl, (Below.refl _ _).alloc (Nat.le_refl _) _⟩
set_option maxHeartbeats 4000000 in
set_option maxRecDepth 100000 in
theorem code_num (v : Value) (n : Int) (l : List (ByteArray × ByteArray)) (w : World) (hch : Hid (Chain w v n l)) (hg : w.cell? ⟨0, 0, none⟩ = some (.iface 104 (.agg #[hd 43]))) :
    Calls Tryd.prog 14 #[v] w fun ev w' => ev = .returned (.int .i64 n) ∧ Below w.heap.size w w' := by
  obtain ⟨T, x, rfl⟩ := hch.out.iface
  have hlt : 0 < w.heap.size := by
    rcases Nat.eq_zero_or_pos w.heap.size with h0 | h
    · simp [World.cell?, h0] at hg
    · exact h
  have hB : Below w.heap.size w (w.alloc (.cells #[.int .i64 0] 59)) := (Below.refl _ _).alloc (Nat.le_refl _) _
  have HB := Lib.hid hB
  have hch2 : Hid (Chain (w.alloc (.cells #[.int .i64 0] 59)) (.iface T x) n l) := hch.out.on hB
  have hg2 := Lib.hid ((hB.cell (p := ⟨0, 0, none⟩) hlt).trans hg)
  have ht : (w.alloc (.cells #[.int .i64 0] 59)).cell? ⟨w.heap.size, 0, none⟩ = some (.int .i64 0) := by simp
  have HT := Lib.hid ht
  clear hB ht
  go_enter Tryd.func14, Tryd.ntmps14
  go_wp2_with fail
  refine (As_num (.iface T x) n l ⟨w.heap.size, 0, none⟩ (.int .i64 0) _ hch2 hg2.out HT.out (by simp)).mono ?_
  rintro ev w' ⟨rfl, hw⟩
  have hcell := hw.cell HT.out
  have HW := Lib.hid (hw.below HB.out (Nat.le_refl _))
  clear hw
  go_wp2_with fail
  go_ret
  exact ⟨rfl, HW.out⟩
/-- an error of the program: none (the number 0), or a number that is wrapped -/
def IsErr (w : World) (v : Value) (n : Int) : Prop := (v = .nilIface ∧ n = 0) ∨ ∃ l, Chain w v n l
theorem IsErr.on {w w' : World} {v : Value} {n : Int} (h : IsErr w v n) (hb : Below w.heap.size w w') : IsErr w' v n := by
  rcases h with h | ⟨l, h⟩
  · exact .inl h
  · exact .inr ⟨l, h.on hb⟩
/-- the variable errors.errorType, as it is laid -/
def Laid (w : World) : Prop := w.cell? ⟨0, 0, none⟩ = some (.iface 104 (.agg #[hd 43]))
theorem Laid.on {w w' : World} (h : Laid w) (hb : Below w.heap.size w w') : Laid w' := by
  have hlt : 0 < w.heap.size := by
    rcases Nat.eq_zero_or_pos w.heap.size with h0 | hp
    · unfold Laid at h; simp [World.cell?, h0] at h
    · exact hp
  exact (hb.cell (p := ⟨0, 0, none⟩) hlt).trans h
theorem code_c (v : Value) (n : Int) (w : World) (he : Hid (IsErr w v n)) (hg : Hid (Laid w)) : Calls Tryd.prog 14 #[v] w fun ev w' => ev = .returned (.int .i64 n) ∧ Below w.heap.size w w' := by
  rcases he.out with ⟨rfl, rfl⟩ | ⟨l, h⟩
  · exact code_nil w
  · exact code_num v n l w h hg.out
end Go.Proofs.YtpijilfkmkdghaaDoor.Err
