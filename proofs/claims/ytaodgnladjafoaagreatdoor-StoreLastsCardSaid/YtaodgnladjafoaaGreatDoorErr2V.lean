/- Words that the proof uses. -/
import Derived.Test.YtaodgnladjafoaaGreatDoorErr01V
set_option linter.unusedVariables false
namespace Go.Proofs.YtaodgnladjafoaaGreatDoor.Err
open Go.RowKit Go.Extern.Stop Go.Stop Go.Extern
section
variable {P : Program} (w : World)
theorem run_equalIn_iface_int (d : Nat) {ti tn : TypeId} {ms : Array (String × TypeId)} {i : TypeInfo} {k : IntKind} (a b : Int)
    (hi : P.underlying ti = some (.interface ms)) (hn : P.underlying tn = some (.int k)) (hinfo : P.info? tn = some i) (hcomp : i.comparable = true) :
    (Op.equalIn (d + 2) ti (.iface tn (.int k a)) (.iface tn (.int k b))).run P w = .ok (a == b) w := by
  simp [Op.equalIn, run_underlying hi, run_underlying hn, typeInfo, hinfo, hcomp]
theorem run_eql_iface_int {ti tn : TypeId} {ms : Array (String × TypeId)} {i : TypeInfo} {k : IntKind} (a b : Int)
    (hi : P.underlying ti = some (.interface ms)) (hn : P.underlying tn = some (.int k)) (hinfo : P.info? tn = some i) (hcomp : i.comparable = true) :
    (binOp .eql ti (.iface tn (.int k a)) (.iface tn (.int k b))).run P w = .ok (.bool (a == b)) w := by
  simp only [binOp]
  simp [Op.equal, Op.maxDepth, run_equalIn_iface_int w 9998 a b hi hn hinfo hcomp]
end
theorem compE : (Tryz.prog.info? 74).map (·.comparable) = some true := by kernel_rfl
theorem eqEE (n m : Int) (w : World) : (binOp .eql 26 (.iface 74 (.int .i64 n)) (.iface 74 (.int .i64 m))).run Tryz.prog w = .ok (.bool (n == m)) w := by
  obtain ⟨i, hi, hc⟩ := Option.map_eq_some_iff.1 compE
  exact run_eql_iface_int w n m Tryz.underlying26 Tryz.underlying74 hi hc
theorem eqFE (v x : Value) (w : World) : (binOp .eql 26 (.iface 111 v) (.iface 74 x)).run Tryz.prog w = .ok (.bool false) w := run_eql_iface_types 111 74 v x Tryz.underlying26 (by decide) w
theorem noIsF (v : Value) (xT : TypeId) (w : World) : (Instr.typeAssert (.iface 111 v) xT 177 true).run Tryz.prog w = .ok (.tuple #[.nilIface, .bool false]) w := run_typeAssert_lacksB Tryz.underlying177 (by kernel_rfl) (by kernel_rfl) v xT w
theorem noIsE (v : Value) (xT : TypeId) (w : World) : (Instr.typeAssert (.iface 74 v) xT 177 true).run Tryz.prog w = .ok (.tuple #[.nilIface, .bool false]) w := run_typeAssert_lacksB Tryz.underlying177 (by kernel_rfl) (by kernel_rfl) v xT w
theorem mComparable (h : Value) (w : World) : (Go.method 311 153 (.agg #[h]) "Comparable").run Tryz.prog w = .ok (124, .agg #[h]) w := by kernel_rfl
set_option maxHeartbeats 4000000 in
set_option maxRecDepth 100000 in
theorem is_num (v : Value) (n m : Int) (l : List (ByteArray × ByteArray)) (w : World) (hch : Hid (Chain w v n l)) :
    Calls Tryz.prog 84 #[v, .iface 74 (.int .i64 m), .bool true] w fun ev w' => ev = .returned (.bool (n == m)) ∧ Below w.heap.size w w' := by
  go_enter Tryz.func84, Tryz.ntmps84
  go_wp2
  go_loopg [0] l.length (fun kq v0 w' => ∃ l' : List (ByteArray × ByteArray), Hid (l'.length = kq) ∧ Hid (Chain w' v0 n l') ∧ w' = w)
  case atStart => exact ⟨l, rfl, hch, rfl⟩
  case round =>
    obtain ⟨l', hl, hc, rfl⟩ := hrel
    cases hc.out with
    | base =>
      have e1 := eqEE
      have e2 := noIsE
      have e3 := unwrapE
      have e4 := unwrapsE
      cases hnm : (n == m) with
      | true =>
        go_wp2_with fail
        go_ret
        exact ⟨by rw [hnm]; rfl, Below.refl _ _⟩
      | false =>
        go_wp2_with fail
        go_ret
        exact ⟨by rw [hnm]; rfl, Below.refl _ _⟩
    | wrap c op path e _ l2 hblk hnext =>
      obtain ⟨T, x, rfl⟩ := hnext.iface
      have HN := Lib.hid hnext
      have HK := Lib.hid hblk
      clear hnext hblk hc
      have e1 := eqFE
      have e2 := noIsF
      have e3 := unwrapF
      have m2 := mUnwrap
      cases gk with
      | zero => exact absurd hl.out (by simp)
      | succ k1 =>
        go_wp2_with fail
        refine (unwrap_c c op path (.iface T x) _ HK.out).mono ?_
        rintro ev w' ⟨rfl, rfl⟩
        go_wp2_with fail
        go_roundg k1
        case measure => exact Nat.lt_succ_self _
        case rel => exact ⟨l2, Lib.hid (by have := hl.out; simpa using this), HN, rfl⟩
theorem compEE (w : World) : ((ReflectliteType.method fun t => do Rtype.noPackHeld "Comparable" t; pure (.bool (← typeInfo t).comparable)) #[.agg #[hd 74]]).run Tryz.prog w = .ok (.bool true) w := by kernel_rfl
theorem goCompE (w : World) : (callFunc 124 #[.agg #[hd 74]]).run Tryz.prog w = .ok (.value (.bool true)) w := by
  have h := @run_callFunc_extern Tryz.prog 124 _ (ReflectliteType.method fun t => do Rtype.noPackHeld "Comparable" t; pure (.bool (← typeInfo t).comparable)) Tryz.func124 (by kernel_rfl) (by kernel_rfl) (by kernel_rfl) (by kernel_rfl) #[.agg #[hd 74]] w
  rw [h]
  exact congrArg (fun r : Result Value => r.andThen fun v w' => Result.ok (Next.value v) w') (compEE w)
set_option maxHeartbeats 4000000 in
set_option maxRecDepth 100000 in
theorem Is_num (v : Value) (n m : Int) (l : List (ByteArray × ByteArray)) (w : World) (hch : Hid (Chain w v n l)) :
    Calls Tryz.prog 56 #[v, .iface 74 (.int .i64 m)] w fun ev w' => ev = .returned (.bool (n == m)) ∧ Below w.heap.size w w' := by
  obtain ⟨T, x, rfl⟩ := hch.out.iface
  have h1 := goTypeOfE
  have h2 := goCompE
  have h3 := mComparable
  go_enter Tryz.func56, Tryz.ntmps56
  go_wp2_with fail
  refine (is_num (.iface T x) n m l _ hch).mono ?_
  rintro ev w' ⟨rfl, hb⟩
  have HB := Lib.hid hb
  clear hb
  go_wp2_with fail
  go_ret
  exact ⟨rfl, HB.out⟩
theorem fis_num (v : Value) (n m : Int) (l : List (ByteArray × ByteArray)) (w : World) (hch : Hid (Chain w v n l)) :
    Calls Tryz.prog 33 #[v, .int .i64 m] w fun ev w' => ev = .returned (.bool (n == m)) ∧ Below w.heap.size w w' := by
  go_enter Tryz.func33, Tryz.ntmps33
  go_wp2_with fail
  refine (Is_num v n m l _ hch).mono ?_
  rintro ev w' ⟨rfl, hb⟩
  have HB := Lib.hid hb
  clear hb
  go_wp2_with fail
  go_ret
  exact ⟨rfl, HB.out⟩
end Go.Proofs.YtaodgnladjafoaaGreatDoor.Err
