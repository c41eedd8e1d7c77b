/- Several texts in one: words that the proof of the law uses. -/
import Derived.Test.YtaodgnladjafoaaGreatDoorMani45V
set_option linter.unusedVariables false
set_option linter.unusedSimpArgs false
namespace Go.Proofs.YtaodgnladjafoaaGreatDoor.Mni
open Go.RowKit Go.Proofs.YtaodgnladjafoaaGreatDoorW.PrintWords Go.Proofs.YtaodgnladjafoaaGreatDoorW.PrintLast Go.Proofs.YtaodgnladjafoaaGreatDoorW.PrintMore Go.Proofs.YtaodgnladjafoaaGreatDoor.Md Go.Proofs.YtaodgnladjafoaaGreatDoor.QStoreLasts
theorem litR (a b c : Int) (W : World) : (Instr.buildSlice 33 1 #[(0, .agg #[.int .i64 a, .int .i64 b, .int .u32 c])]).run Tryz.prog W = .ok (.slice (some ⟨W.heap.size, 0, none⟩) 1 1) (W.alloc (.cells #[.int .i64 a, .int .i64 b, .int .u32 c] 36 (0, 0))) := by kernel_rfl
theorem exec_litR {r : Operand → Value} {o : Oper} {x : Operand} {a b c : Int} (ho : o.op = .buildSlice 33 1 #[(0, x)]) (hx : r x = .agg #[.int .i64 a, .int .i64 b, .int .u32 c]) (W : World) : (execOp r o).run Tryz.prog W = .ok (.value (.slice (some ⟨W.heap.size, 0, none⟩) 1 1)) (W.alloc (.cells #[.int .i64 a, .int .i64 b, .int .u32 c] 36 (0, 0))) := by
  have h2 := litR a b c W
  unfold execOp
  simp only [ho]
  have e : (#[((0 : Nat), x)] : Array (Nat × Operand)).map (fun (y : Nat × Operand) => (y.1, r y.2)) = #[(0, .agg #[.int .i64 a, .int .i64 b, .int .u32 c])] := by simp [hx]
  show (Sem.run _ (do let v ← Instr.buildSlice _ 1 (Array.map _ _); _) _) = _
  rw [e, Sem.run_bind, h2]
  rfl
theorem readsR (w : World) (g : Nat) (p : Rf) (h : w.heap[g]? = some (.cells #[.int .i64 p.f0, .int .i64 p.f1, .int .u32 p.f2] 36 (0, 0))) : ReadsRow (fun (x : Rf) cs => cs = [Value.int .i64 x.f0, .int .i64 x.f1, .int .u32 x.f2]) rk.sz w (some ⟨g, 0, none⟩) 1 [p] := by
  refine ⟨rfl, by decide, fun _ => ⟨⟨g, 0, none⟩, rfl, fun j x hj => ?_⟩⟩
  have hj0 : j = 0 := by
    have := (List.getElem?_eq_some_iff.1 hj).1
    simp at this; exact this
  subst hj0
  cases hj
  refine ⟨[.int .i64 p.f0, .int .i64 p.f1, .int .u32 p.f2], rfl, rfl, fun i u hi => ?_⟩
  have e : (⟨g, 0, none⟩ : Addr).add (0 * rk.sz + i) = ⟨g, i, none⟩ := by
    unfold Addr.add
    by_cases h0 : i = 0
    · subst h0; rfl
    · rw [if_neg (by omega)]; simp
  rw [e, Err.cell_of_blk h i]
  simpa using hi
theorem infoR : (Tryz.prog.info? 36).map (fun i => (i.zero, i.size, i.bytes)) = some (some (.agg #[.int .i64 0, .int .i64 0, .int .u32 0]), 3, 24) := by kernel_rfl
theorem r_sl {α : Type} {d : Kd α} {e base : Nat} {w : World} {ok : Nat → Prop} {v : Value} {xs : List α} (h : d.R e w base ok v xs) : ∃ A m c, v = .slice A m c := by
  obtain ⟨A, c, rfl⟩ := Kd.R_slice h
  exact ⟨_, _, _, rfl⟩
theorem mod_row (W : World) (b : Nat) (cs : Array Value) : Mod (· = b) W (W.setRow b cs) :=
  ⟨rfl, rfl, rfl, by simp, fun k hk hs => by
    show (W.heap.modify b _)[k]? = _
    rw [Array.getElem?_modify, if_neg (fun e => hs e.symm)]⟩
end Go.Proofs.YtaodgnladjafoaaGreatDoor.Mni
namespace Go.Proofs.YtaodgnladjafoaaGreatDoor.Mni
open Go.RowKit Go.Proofs.YtaodgnladjafoaaGreatDoorW.PrintWords Go.Proofs.YtaodgnladjafoaaGreatDoorW.PrintLast Go.Proofs.YtaodgnladjafoaaGreatDoorW.PrintMore Go.Proofs.YtaodgnladjafoaaGreatDoor.Md Go.Proofs.YtaodgnladjafoaaGreatDoor.QStoreLasts Go.Proofs.YtaodgnladjafoaaGreatDoor.CdM
open Go.Proofs.YtaodgnladjafoaaGreatDoor.Err (Laid IsErr code_nil code_c Chain at_some at_nil)
def errV (n : Int) : Value := .iface 74 (.int .i64 n)
theorem at_err (op path : ByteArray) (n : Int) (w : World) : Calls Tryz.prog 31 #[.string op, .string path, errV n] w fun ev w' => ∃ T x, ev = .returned (.iface T x) ∧ IsErr w' (.iface T x) n ∧ Below w.heap.size w w' := by
  refine (at_some op path _ _ w).mono ?_
  rintro e w' ⟨rfl, rfl⟩
  exact ⟨_, _, rfl, .inr ⟨_, .wrap _ op path _ n [] (heap_alloc_last w _) (.base n)⟩, (Below.refl _ _).alloc (Nat.le_refl _) _⟩
theorem itp {α : Type} {c : Prop} {_ : Decidable c} {A B r : Option α} (hc : c) (h : A = r) : (if c then A else B) = r := by rw [if_pos hc]; exact h
theorem itn {α : Type} {c : Prop} {_ : Decidable c} {A B r : Option α} (hc : ¬ c) (h : B = r) : (if c then A else B) = r := by rw [if_neg hc]; exact h
theorem num_l : ∀ (n : Nat) (k : Nat) (acc : List Int), (num n).length ≤ k → acc.length + (num n).length ≤ 1000 → code_Num.l0 k (n : Int) acc = some (strOfNums (acc ++ digs n)) := by
  intro n
  induction n using Nat.strongRecOn with
  | _ n ih =>
    intro k acc hk hl
    have hp := num_pos n
    obtain ⟨k, rfl⟩ : ∃ m, k = m + 1 := ⟨k - 1, by omega⟩
    have c2 : acc.length < 140737488355328 := by omega
    by_cases h : n < 128
    · have c1 : ¬ (n : Int) ≥ 128 := by omega
      have e : (n : Int) % 256 = n := by omega
      have e2 : digs n = [(n : Int)] := by unfold digs; rw [num_small h]; rfl
      simp only [code_Num.l0]
      refine itn c1 (itp c2 ?_)
      rw [e, e2]
    · have c1 : (n : Int) ≥ 128 := by omega
      have hb := num_big h
      have hlen : (num n).length = (num (n / 128)).length + 1 := by rw [hb]; simp
      have e2 : digs n = ((n : Int) % 128 + 128) :: digs (n / 128) := by unfold digs; rw [hb]; simp
      have e3 : (n : Int) / 128 = ((n / 128 : Nat) : Int) := by omega
      simp only [code_Num.l0]
      refine itp c1 (itp c2 ?_)
      rw [digit_more, e3, ih (n / 128) (by omega) k _ (by omega) (by simp; omega), e2]
      simp
theorem num_at (n : Nat) (hn : n ≤ 4611686018427387904) (k : Nat) (hk : 11 ≤ k) : code_Num.f k (n : Int) = some (numS n) := by
  have h9 := numS_nine hn
  rw [numS_size] at h9
  obtain ⟨k, rfl⟩ : ∃ m, k = m + 1 := ⟨k - 1, by omega⟩
  have c1 : ¬ (n : Int) < 0 := by omega
  have c2 : ¬ (n : Int) > 4611686018427387904 := by omega
  have hd : decide ((n : Int) > 4611686018427387904) = false := decide_eq_false c2
  have c3 : ¬ (false = true) := by decide
  have hl := num_l n k [] (by omega) (by simp; omega)
  unfold code_Num.f
  refine itn c1 ?_
  rw [hd]
  simp only [code_Num.j0]
  exact itn c3 hl
theorem num_v (x : Int) (h0 : 0 ≤ x) (h1 : x ≤ 4611686018427387904) (w : World) : Calls Tryz.prog 87 #[.int .i64 x] w fun e w' => e = .returned (.string (numS x.toNat)) ∧ Below w.heap.size w w' := by
  have h := code_Num.calls 11 _ _ w (num_at x.toNat (by omega) 11 (by omega))
  rw [show ((x.toNat : Nat) : Int) = x by omega] at h
  exact h
def Held3 (w : World) (B : Nat) (x y z : Value) (w' : World) : Prop := (w'.cell? ⟨B, 0, none⟩ = some x ∧ w'.cell? ⟨B, 1, none⟩ = some y ∧ w'.cell? ⟨B, 2, none⟩ = some z) ∧ B < w'.heap.size ∧ Below w.heap.size w w'
theorem Held3.on {w : World} {B : Nat} {x y z : Value} {w1 w2 : World} (h : Held3 w B x y z w1) (k : Below w1.heap.size w1 w2) : Held3 w B x y z w2 :=
  ⟨⟨(k.cell (p := ⟨B, 0, none⟩) h.2.1).trans h.1.1, (k.cell (p := ⟨B, 1, none⟩) h.2.1).trans h.1.2.1, (k.cell (p := ⟨B, 2, none⟩) h.2.1).trans h.1.2.2⟩, Nat.lt_of_lt_of_le h.2.1 k.size, h.2.2.trans (k.mono h.2.2.size)⟩
theorem Held3.new (w : World) (x y z : Value) (t : TypeId) : Held3 w w.heap.size x y z (w.alloc (.cells #[x, y, z] t)).drew :=
  ⟨⟨by simp, by simp, by simp⟩, by simp, ((Below.refl _ _).alloc (Nat.le_refl _) _).drew⟩
set_option maxHeartbeats 2000000 in
set_option maxRecDepth 100000 in
theorem lay_a (x y z : Int) (w : World) (hx0 : 0 ≤ x) (hx1 : x ≤ 4611686018427387904) (hy0 : 0 ≤ y) (hy1 : y ≤ 4611686018427387904) (hz0 : 0 ≤ z) (hz1 : z ≤ 4294967295) :
    Calls Tryz.prog 64 #[.agg #[.int .i64 x, .int .i64 y, .int .u32 z]] w fun e w' => e = .returned (.string (numS x.toNat ++ numS y.toNat ++ numS z.toNat)) ∧ Below w.heap.size w w' := by
  have l1 := numS_nine (n := x.toNat) (by omega)
  have l2 := numS_nine (n := y.toNat) (by omega)
  have l3 := numS_nine (n := z.toNat) (by omega)
  have hu29 := Tryz.underlying36
  have k1 : (9223372036854775807 < (numS x.toNat).size + (numS y.toNat).size) = False := eq_false (by omega)
  have k2 : (9223372036854775807 < (numS x.toNat).size + (numS y.toNat).size + (numS z.toNat).size) = False := eq_false (by omega)
  have k3 : IntKind.i64.wrap z = z := IntWalk.i64_in _ (by omega)
  have HN := Held3.new w (.int .i64 x) (.int .i64 y) (.int .u32 z) 36
  have HN' := Lib.hid HN
  clear HN
  go_enter Tryz.func64, Tryz.ntmps64
  go_wp2_with fail
  go_region_held3 (fun w' => (w'.cell? ⟨w.heap.size, 0, none⟩ = some (.int .i64 x) ∧ w'.cell? ⟨w.heap.size, 1, none⟩ = some (.int .i64 y) ∧ w'.cell? ⟨w.heap.size, 2, none⟩ = some (.int .u32 z)) ∧ w.heap.size < w'.heap.size ∧ Below w.heap.size w w')
    (first | exact HN'.out | assumption | exact Held3.on (by assumption) hb)
    (first | (go_at_call 87; refine (num_v _ (by omega) (by omega) _).mono ?_; rintro e w' ⟨rfl, hb⟩))
  rename_i hS
  have HS := Lib.hid hS
  clear hS
  go_wp2_with fail
  go_ret
  exact ⟨rfl, HS.out.2.2⟩

def numsS : List Int → ByteArray
  | [] => ⟨#[]⟩
  | x :: l => numS x.toNat ++ numsS l
theorem empty_append (s : ByteArray) : (⟨#[]⟩ : ByteArray) ++ s = s := by
  apply ByteArray.ext
  simp [ByteArray.data_append]
theorem append_empty (s : ByteArray) : s ++ (⟨#[]⟩ : ByteArray) = s := by
  apply ByteArray.ext
  simp [ByteArray.data_append]
theorem numsS_size : ∀ (l : List Int), (∀ x ∈ l, 0 ≤ x ∧ x ≤ 4611686018427387904) → (numsS l).size ≤ 9 * l.length
  | [], _ => Nat.zero_le _
  | x :: l, h => by
    have h1 := numsS_size l (fun y hy => h y (List.mem_cons_of_mem _ hy))
    have h2 := numS_nine (n := x.toNat) (by have := (h x List.mem_cons_self).2; omega)
    unfold numsS
    rw [ByteArray.size_append, List.length_cons]
    omega
theorem nums_run (l : List Int) (hb : ∀ x ∈ l, 0 ≤ x ∧ x ≤ 4611686018427387904) (hl : l.length ≤ 1000) : ∀ (n j : Nat) (acc : ByteArray), j + n = l.length → acc.size + 9 * n ≤ 9000 → mani_nums.l0 (n + 12) acc l (l.length : Int) (j : Int) = some (acc ++ numsS (l.drop j))
  | 0, j, acc, hj, ha => by
    unfold mani_nums.l0
    rw [if_neg (by omega), List.drop_eq_nil_of_le (by omega)]
    unfold numsS
    rw [append_empty]
  | n + 1, j, acc, hj, ha => by
    have hlt : j < l.length := by omega
    have hx := hb l[j] (List.getElem_mem hlt)
    have h9 := numS_nine (n := l[j].toNat) (by omega)
    have e2 : wrap64 ((j : Int) + 1) = ((j + 1 : Nat) : Int) := by unfold wrap64; omega
    have ht := num_at l[j].toNat (by omega) (n + 12) (by omega)
    rw [show ((l[j].toNat : Nat) : Int) = l[j] by omega] at ht
    show mani_nums.l0 ((n + 12) + 1) acc l (l.length : Int) (j : Int) = _
    unfold mani_nums.l0
    rw [if_pos (by omega), if_pos (by omega), if_pos (by omega), rd_get l j hlt, ht, Option.bind_some, if_pos (by omega), e2, nums_run l hb hl n (j + 1) _ (by omega) (by rw [ByteArray.size_append]; omega), List.drop_eq_getElem_cons hlt, ByteArray.append_assoc]
    rfl
theorem nums_c (A : Option Addr) (c : Nat) (l : List Int) (w : World) (hb : ∀ x ∈ l, 0 ≤ x ∧ x ≤ 4611686018427387904) (hl : l.length ≤ 1000) (hc : l.length ≤ c) (h : Kd.C (Kd.int .i64) w A l.length l) (s : ByteArray) (hs : Hid (numsS l = s)) :
    Calls Tryz.prog 63 #[.slice A l.length c] w fun e w' => e = .returned (.string s) ∧ Below w.heap.size w w' := by
  refine mani_nums.calls (l.length + 12) A c l s w h hc ?_
  unfold mani_nums.f
  have z := nums_run l hb hl l.length 0 ⟨#[]⟩ (by omega) (by show 0 + 9 * l.length ≤ 9000; omega)
  rw [empty_append, List.drop_zero, hs.out] at z
  exact z
def refS (r : Rf) : ByteArray := numS r.f0.toNat ++ numS r.f1.toNat ++ numS r.f2.toNat
def refsS : List Rf → ByteArray
  | [] => ⟨#[]⟩
  | r :: l => refS r ++ refsS l
def snapsS : List (List Int) → ByteArray
  | [] => ⟨#[]⟩
  | l :: t => (numsS [(l.length : Int)] ++ numsS l) ++ snapsS t
def midS (m : Man) : ByteArray := numsS [(m.stack.length : Int)] ++ numsS m.stack ++ numsS [m.upper + 1, (m.snaps.length : Int)]
def layM (m : Man) : ByteArray := numsS [(m.refs.length : Int)] ++ refsS m.refs ++ midS m ++ snapsS m.snaps
def Fits (m : Man) : Prop := (∀ r ∈ m.refs, 0 ≤ r.f0 ∧ r.f0 ≤ 4611686018427387904 ∧ 0 ≤ r.f1 ∧ r.f1 ≤ 4611686018427387904 ∧ 0 ≤ r.f2 ∧ r.f2 ≤ 4294967295) ∧ (∀ x ∈ m.stack, 0 ≤ x ∧ x ≤ 4611686018427387904) ∧ -1 ≤ m.upper ∧ m.upper ≤ 1000000 ∧ (∀ l ∈ m.snaps, l.length ≤ 9 ∧ ∀ x ∈ l, 0 ≤ x ∧ x ≤ 4611686018427387904) ∧ m.refs.length ≤ 64 ∧ m.stack.length ≤ 8 ∧ m.snaps.length ≤ 16
theorem refS_size (r : Rf) (h : 0 ≤ r.f0 ∧ r.f0 ≤ 4611686018427387904 ∧ 0 ≤ r.f1 ∧ r.f1 ≤ 4611686018427387904 ∧ 0 ≤ r.f2 ∧ r.f2 ≤ 4294967295) : (refS r).size ≤ 27 := by
  have h1 := numS_nine (n := r.f0.toNat) (by omega)
  have h2 := numS_nine (n := r.f1.toNat) (by omega)
  have h3 := numS_nine (n := r.f2.toNat) (by omega)
  unfold refS
  simp only [ByteArray.size_append]
  omega
end Go.Proofs.YtaodgnladjafoaaGreatDoor.Mni
