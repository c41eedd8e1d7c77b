/- The text of a wrapped number (fail.Fault.Error). -/
import Derived.Test.YtmccdopagidfnaaDoorErr5
set_option linter.unusedVariables false
namespace Go.Proofs.YtmccdopagidfnaaDoor.Err
open Go.RowKit Go.Extern.Stop Go.Stop Go.Extern Go.Proofs.YtmccdopagidfnaaDoorW.PrintWords Go.Proofs.YtmccdopagidfnaaDoorW.PrintLast Go.Proofs.YtmccdopagidfnaaDoorW.PrintMore
theorem mErrF (a : Addr) (w : World) : (Go.method 206 38 (.pointer (some a)) "Error").run Tryd.prog w = .ok (43, .pointer (some a)) w := by kernel_rfl
theorem mErrE (n : Int) (w : World) : (Go.method 206 35 (.int .i64 n) "Error").run Tryd.prog w = .ok (14, .int .i64 n) w := by kernel_rfl
theorem keep_blk {w w' : World} {b : Nat} {o : Obj} (hw : Below w.heap.size w w') (h : w.heap[b]? = some o) : w'.heap[b]? = some o := (hw.block b (lt_of_block h)).trans h
def lead (op path : ByteArray) : ByteArray := op ++ (⟨#[32]⟩ : ByteArray) ++ path ++ (⟨#[58, 32]⟩ : ByteArray)
/-- the text of a wrapped number -/
def wrapText (n : Int) : List (ByteArray × ByteArray) → ByteArray
  | [] => errText n
  | (op, path) :: l => lead op path ++ wrapText n l
def tot : List (ByteArray × ByteArray) → Nat
  | [] => 8
  | (op, path) :: l => op.size + path.size + 3 + tot l
theorem lead_size (op path : ByteArray) : (lead op path).size = op.size + path.size + 3 := by
  have e1 : (⟨#[32]⟩ : ByteArray).size = 1 := rfl
  have e2 : (⟨#[58, 32]⟩ : ByteArray).size = 2 := rfl
  unfold lead
  rw [ByteArray.size_append, ByteArray.size_append, ByteArray.size_append, e1, e2]
  omega
theorem wrap_le (n : Int) : ∀ l, (wrapText n l).size ≤ tot l
  | [] => errText_le n
  | (op, path) :: l => by
    have := wrap_le n l
    simp only [wrapText, tot, ByteArray.size_append, lead_size]
    omega
theorem three_on {w w1 w2 : World} {p q r : Addr} {x y z : Value} (h : (w1.cell? p = some x ∧ w1.cell? q = some y ∧ w1.cell? r = some z) ∧ Below w.heap.size w w1) (k : Below w1.heap.size w1 w2) : (w2.cell? p = some x ∧ w2.cell? q = some y ∧ w2.cell? r = some z) ∧ Below w.heap.size w w2 :=
  ⟨⟨(k.cell (World.block_lt_of_cell? _ _ h.1.1)).trans h.1.1, (k.cell (World.block_lt_of_cell? _ _ h.1.2.1)).trans h.1.2.1, (k.cell (World.block_lt_of_cell? _ _ h.1.2.2)).trans h.1.2.2⟩, h.2.trans (k.mono h.2.size)⟩
set_option maxHeartbeats 4000000 in
set_option maxRecDepth 100000 in
theorem ferr_base (b : Nat) (op path : ByteArray) (n : Int) (s r : ByteArray) (w : World)
    (hblk : Hid (w.heap[b]? = some (Obj.cells #[.string op, .string path, .iface 35 (.int .i64 n)] 42 (0, 0))))
    (hs : Hid (lead op path ++ s = r)) (hle : op.size + path.size + 3 + s.size ≤ 9223372036854775807)
    (hc : ∀ w', Below w.heap.size w w' → Calls Tryd.prog 14 #[.int .i64 n] w' fun ev w'' => ev = .returned (.string s) ∧ Below w'.heap.size w' w'') :
    Calls Tryd.prog 43 #[.pointer (some ⟨b, 0, none⟩)] w fun ev w' => ev = .returned (.string r) ∧ Below w.heap.size w w' := by
  have h0 := cell_of_blk hblk.out 0
  have h1 := cell_of_blk hblk.out 1
  have h2 := cell_of_blk hblk.out 2
  simp only [List.getElem?_toArray, List.getElem?_cons_zero, List.getElem?_cons_succ] at h0 h1 h2
  have k1 : (9223372036854775807 < op.size + 1) = False := eq_false (by omega)
  have k2 : (9223372036854775807 < op.size + 1 + path.size) = False := eq_false (by omega)
  have k3 : (9223372036854775807 < op.size + 1 + path.size + 2) = False := eq_false (by omega)
  have k4 : (9223372036854775807 < op.size + 1 + path.size + 2 + s.size) = False := eq_false (by omega)
  have hm := mErrE
  go_enter Tryd.func43, Tryd.ntmps43
  have HN := Lib.hid (three_on (And.intro (And.intro h0 (And.intro h1 h2)) (Below.refl w.heap.size w)) (w2 := w.drew) (Below.refl _ _).drew)
  go_wp2_with fail
  go_region_held3 (fun w' => (w'.cell? ⟨b, 0, none⟩ = some (.string op) ∧ w'.cell? ⟨b, 1, none⟩ = some (.string path) ∧ w'.cell? ⟨b, 2, none⟩ = some (.iface 35 (.int .i64 n))) ∧ Below w.heap.size w w')
    (first | exact HN.out | assumption | exact three_on (by assumption) hkk)
    (fail)
  rename_i wq hS
  obtain ⟨⟨g0, g1, g2⟩, hb⟩ := hS
  have HB := Lib.hid hb
  clear hb h0 h1 h2
  go_wp2_with fail
  refine (hc _ HB.out).mono ?_
  rintro ev w' ⟨rfl, hd⟩
  have HB2 := below_on HB (Nat.le_refl _) hd
  go_wp2_with fail
  go_ret
  exact ⟨by rw [← hs.out]; rfl, HB2.out⟩
set_option maxHeartbeats 4000000 in
set_option maxRecDepth 100000 in
theorem ferr_wrap (b : Nat) (op path : ByteArray) (c : Addr) (s r : ByteArray) (w : World)
    (hblk : Hid (w.heap[b]? = some (Obj.cells #[.string op, .string path, .iface 38 (.pointer (some c))] 42 (0, 0))))
    (hs : Hid (lead op path ++ s = r)) (hle : op.size + path.size + 3 + s.size ≤ 9223372036854775807)
    (hc : ∀ w', Below w.heap.size w w' → Calls Tryd.prog 43 #[.pointer (some c)] w' fun ev w'' => ev = .returned (.string s) ∧ Below w'.heap.size w' w'') :
    Calls Tryd.prog 43 #[.pointer (some ⟨b, 0, none⟩)] w fun ev w' => ev = .returned (.string r) ∧ Below w.heap.size w w' := by
  have h0 := cell_of_blk hblk.out 0
  have h1 := cell_of_blk hblk.out 1
  have h2 := cell_of_blk hblk.out 2
  simp only [List.getElem?_toArray, List.getElem?_cons_zero, List.getElem?_cons_succ] at h0 h1 h2
  have k1 : (9223372036854775807 < op.size + 1) = False := eq_false (by omega)
  have k2 : (9223372036854775807 < op.size + 1 + path.size) = False := eq_false (by omega)
  have k3 : (9223372036854775807 < op.size + 1 + path.size + 2) = False := eq_false (by omega)
  have k4 : (9223372036854775807 < op.size + 1 + path.size + 2 + s.size) = False := eq_false (by omega)
  have hm := mErrF
  go_enter Tryd.func43, Tryd.ntmps43
  have HN := Lib.hid (three_on (And.intro (And.intro h0 (And.intro h1 h2)) (Below.refl w.heap.size w)) (w2 := w.drew) (Below.refl _ _).drew)
  go_wp2_with fail
  go_region_held3 (fun w' => (w'.cell? ⟨b, 0, none⟩ = some (.string op) ∧ w'.cell? ⟨b, 1, none⟩ = some (.string path) ∧ w'.cell? ⟨b, 2, none⟩ = some (.iface 38 (.pointer (some c)))) ∧ Below w.heap.size w w')
    (first | exact HN.out | assumption | exact three_on (by assumption) hkk)
    (fail)
  rename_i wq hS
  obtain ⟨⟨g0, g1, g2⟩, hb⟩ := hS
  have HB := Lib.hid hb
  clear hb h0 h1 h2
  go_wp2_with fail
  refine (hc _ HB.out).mono ?_
  rintro ev w' ⟨rfl, hd⟩
  have HB2 := below_on HB (Nat.le_refl _) hd
  go_wp2_with fail
  go_ret
  exact ⟨by rw [← hs.out]; rfl, HB2.out⟩
theorem ferr_c (n : Int) : ∀ (l : List (ByteArray × ByteArray)) (op path : ByteArray) (b : Nat) (e : Value) (w : World), w.heap[b]? = some (Obj.cells #[.string op, .string path, e] 42 (0, 0)) → Chain w e n l → tot ((op, path) :: l) ≤ 9223372036854775807 →
    Calls Tryd.prog 43 #[.pointer (some ⟨b, 0, none⟩)] w fun ev w' => ev = .returned (.string (wrapText n ((op, path) :: l))) ∧ Below w.heap.size w w'
  | [], op, path, b, e, w, hb, hch, hl => by
    have := errText_le n
    simp only [tot] at hl
    cases hch
    exact ferr_base b op path n (errText n) _ w (Lib.hid hb) rfl (by omega) (fun w' _ => err_c n _ rfl w')
  | (o2, p2) :: l, op, path, b, e, w, hb, hch, hl => by
    have := wrap_le n ((o2, p2) :: l)
    simp only [tot] at hl this
    cases hch with
    | wrap c _ _ e2 _ _ hb2 hch2 =>
      exact ferr_wrap b op path ⟨c, 0, none⟩ (wrapText n ((o2, p2) :: l)) _ w (Lib.hid hb) rfl (by omega) (fun w' hw => ferr_c n l o2 p2 c e2 w' (keep_blk hw hb2) (hch2.on hw) (by simp only [tot]; omega))
end Go.Proofs.YtmccdopagidfnaaDoor.Err
