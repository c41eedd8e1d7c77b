/- Ops, and their bytes (plain); small calls on ops: right, turned, joined, Of, Few. -/
import Derived.Test.YtabhfopmblaohaaDoorQOperBack
import Derived.Test.YtabhfopmblaohaaDoorJoin
import Derived.Test.YtabhfopmblaohaaDoorCodeNum
import Derived.Test.YtabhfopmblaohaaDoorMod
import Derived.Test.YtabhfopmblaohaaDoorErr1
import Derived.Lib.SmallJoins
set_option linter.unusedVariables false
set_option linter.unusedSimpArgs false
namespace Go.Proofs.YtabhfopmblaohaaDoor.Opr
open Go.RowKit Go.Proofs.YtabhfopmblaohaaDoor.QOperBack Go.Proofs.YtabhfopmblaohaaDoorW.PrintWords Go.Proofs.YtabhfopmblaohaaDoorW.PrintLast Go.Proofs.YtabhfopmblaohaaDoorW.PrintMore Go.Proofs.YtabhfopmblaohaaDoor.CdM Go.Proofs.YtabhfopmblaohaaDoor.Md
open Go.Proofs.YtabhfopmblaohaaDoor.Err (Laid IsErr code_nil code_c Chain at_some at_nil)
@[ext] structure Op where
  d : Int
  p : ByteArray
  q : ByteArray
  n : Int
  s : ByteArray
def Op.a (o : Op) : Array Value := #[.int .i64 o.d, .string o.p, .string o.q, .int .i64 o.n, .string o.s]
def Op.zero : Op := ⟨0, ⟨#[]⟩, ⟨#[]⟩, 0, ⟨#[]⟩⟩
/-- a number without a sign -/
def turnN (n : Int) : Nat := if n < 0 then (-2 * n - 1).toNat else (2 * n).toNat
def strS (s : ByteArray) : ByteArray := numS s.size ++ s
/-- an op's bytes -/
def Op.lay (o : Op) : ByteArray := numS o.d.toNat ++ (strS o.p ++ (strS o.q ++ (numS (turnN o.n) ++ strS o.s)))
structure Op.Ok (o : Op) : Prop where
  d0 : 0 ≤ o.d
  d1 : o.d ≤ 6
  p : o.p.size ≤ 54
  q : o.q.size ≤ 54
  s : o.s.size ≤ 256
  n0 : -1073741824 ≤ o.n
  n1 : o.n ≤ 1073741824
theorem Op.ok_iff (o : Op) : o.Ok ↔ (0 ≤ o.d ∧ o.d ≤ 6 ∧ o.p.size ≤ 54 ∧ o.q.size ≤ 54 ∧ o.s.size ≤ 256 ∧ -1073741824 ≤ o.n ∧ o.n ≤ 1073741824) :=
  ⟨fun ⟨a, b, c, d, e, f, g⟩ => ⟨a, b, c, d, e, f, g⟩, fun ⟨a, b, c, d, e, f, g⟩ => ⟨a, b, c, d, e, f, g⟩⟩
instance (o : Op) : Decidable o.Ok := decidable_of_iff _ (Op.ok_iff o).symm
def Op.okB (o : Op) : Bool := decide o.Ok
theorem Op.okB_true {o : Op} : o.okB = true ↔ o.Ok := decide_eq_true_iff
theorem Op.okB_false {o : Op} : o.okB = false ↔ ¬ o.Ok := decide_eq_false_iff_not
theorem bnd {α β : Type} {x : Option α} {f : α → Option β} {v : α} {r : Option β} (hx : x = some v) (h : f v = r) : x.bind f = r := by rw [hx]; exact h
theorem right_at (o : Op) : oper_right.f o.d o.p o.q o.n o.s = some o.okB := by
  unfold oper_right.f edit_Right.f
  by_cases h : o.Ok
  · rw [Op.okB_true.2 h]
    obtain ⟨a, b, c, d, e, f, g⟩ := h
    rw [if_pos a, if_pos b, if_pos (by omega), if_pos (by omega)]
    have e1 : decide ((o.s.size : Int) ≤ 256) = true := decide_eq_true (by omega)
    rw [e1, Option.bind_some, if_pos rfl, if_pos f, decide_eq_true g]
  · rw [Op.okB_false.2 h]
    rw [Op.ok_iff] at h
    by_cases a : o.d ≥ 0
    · rw [if_pos a]
      by_cases b : o.d ≤ 6
      · rw [if_pos b]
        by_cases c : (o.p.size : Int) ≤ 54
        · rw [if_pos c]
          by_cases d : (o.q.size : Int) ≤ 54
          · rw [if_pos d]
            by_cases e : (o.s.size : Int) ≤ 256
            · rw [decide_eq_true e, Option.bind_some, if_pos rfl]
              by_cases f : o.n ≥ -1073741824
              · rw [if_pos f, decide_eq_false (fun g => h ⟨a, b, by omega, by omega, by omega, f, g⟩)]
              · rw [if_neg f]
            · rw [decide_eq_false e]; rfl
          · rw [if_neg d]; rfl
        · rw [if_neg c]; rfl
      · rw [if_neg b]; rfl
    · rw [if_neg a]; rfl
theorem right_c (o : Op) (w : World) : Calls Tryd.prog 20 #[.agg o.a] w fun e w' => e = .returned (.bool o.okB) ∧ Below w.heap.size w w' :=
  oper_right.calls _ _ _ _ _ _ w (right_at o)
theorem of_c (o : Op) (w : World) : Calls Tryd.prog 11 #[.agg o.a] w fun e w' => e = .returned (.agg o.a) ∧ Below w.heap.size w w' :=
  shalelaw14_Of.calls _ _ _ _ _ _ _ _ _ _ w rfl
/-- of a size that is looked at -/
def Op.fewB (o : Op) : Bool := decide (o.p.size ≤ 100 ∧ o.q.size ≤ 100 ∧ o.s.size ≤ 600)
theorem few_at (o : Op) : shalelaw11_Few.f o.d o.p o.q o.n o.s = some (if o.fewB = true then 1 else 0) := by
  unfold shalelaw11_Few.f Op.fewB
  by_cases a : (o.p.size : Int) > 100
  · rw [if_pos a, decide_eq_false (by omega)]; rfl
  · rw [if_neg a]
    by_cases b : (o.q.size : Int) > 100
    · rw [if_pos b, decide_eq_false (by omega)]; rfl
    · rw [if_neg b]
      by_cases c : (o.s.size : Int) > 600
      · rw [if_pos c, decide_eq_false (by omega)]; rfl
      · rw [if_neg c, decide_eq_true (by omega)]; rfl
theorem few_c (o : Op) (v : Int) (w : World) (h : Hid ((if o.fewB = true then (1 : Int) else 0) = v)) : Calls Tryd.prog 9 #[.agg o.a] w fun e w' => e = .returned (.int .i64 v) ∧ Below w.heap.size w w' :=
  shalelaw11_Few.calls _ _ _ _ _ _ w (by rw [few_at, h.out])
theorem turned_c (n : Int) (w : World) (h0 : -1073741824 ≤ n) (h1 : n ≤ 1073741824) : Calls Tryd.prog 25 #[.int .i64 n] w fun e w' => e = .returned (.int .i64 ((turnN n : Nat) : Int)) ∧ Below w.heap.size w w' := by
  refine (oper_turned.calls n ((turnN n : Nat) : Int) w ?_).mono (fun e w' h => ⟨h.1, ?_⟩)
  · unfold oper_turned.f turnN wrap64
    by_cases h : n < 0
    · rw [if_pos h, if_pos h]; congr 1; omega
    · rw [if_neg h, if_neg h]; congr 1; omega
  · exact Drawn0.below h.2
theorem join_empty (xs : List (List UInt8)) : Lib.join xs [] = xs.flatten := by
  cases xs with
  | nil => rfl
  | cons x r =>
    rw [Lib.join_cons, List.flatten_cons]
    congr 1
    unfold Lib.joinTail
    congr 1
    conv => rhs; rw [← List.map_id r]
    apply List.map_congr_left
    intro a _
    rfl
set_option maxHeartbeats 1000000 in
set_option maxRecDepth 100000 in
theorem joined_c (bk : Nat) (xs : List ByteArray) (w : World) (hcells : ∀ (j : Nat) x, xs[j]? = some x → w.cell? ⟨bk, 0 + j, none⟩ = some (.string x)) (hbk : bk < w.heap.size) (hN : xs.length ≤ 1000) (t : ByteArray) (ht : (xs.map (·.data.toList)).flatten = t.data.toList) (hl : t.size ≤ 1000000) :
    Calls Tryd.prog 22 #[.slice (some ⟨bk, 0, none⟩) xs.length xs.length] w fun e w' => e = .returned (.string t) ∧ Below w.heap.size w w' := by
  have HC := Lib.hid hcells
  have HT := Lib.hid ht
  clear hcells ht
  go_enter Tryd.func22, Tryd.ntmps22
  go_wp2_with fail
  have e0 : (Lib.join (xs.map (·.data.toList)) (⟨#[]⟩ : ByteArray).data.toList) = t.data.toList := by
    show Lib.join _ [] = _
    rw [join_empty, HT.out]
  have el : (Lib.join (xs.map (·.data.toList)) (⟨#[]⟩ : ByteArray).data.toList).length ≤ 140737488355328 := by
    rw [e0, Array.length_toList]
    show t.size ≤ _
    omega
  refine (Jn.strings_Join bk 0 xs.length xs ⟨#[]⟩ w HC.out hbk (by omega) (Nat.le_refl _) el).mono ?_
  rintro e w' ⟨rfl, hd⟩
  rw [e0]
  have HD := Lib.hid hd
  clear hd e0 el
  go_wp2_with fail
  go_ret
  exact ⟨rfl, HD.out⟩
end Go.Proofs.YtabhfopmblaohaaDoor.Opr
