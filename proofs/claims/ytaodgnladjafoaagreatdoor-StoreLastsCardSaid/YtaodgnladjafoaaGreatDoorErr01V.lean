/- Several texts in one: words that the proof of the law uses. -/
import Derived.Test.YtaodgnladjafoaaGreatDoorProg
import Derived.WalkKit
import Derived.LaidEql
import Derived.Stop.Asserts
import Derived.RowKitTokens
import Derived.Lib.Hide
import Derived.Deep.LoopGhost
set_option linter.unusedVariables false
namespace Go.Proofs.YtaodgnladjafoaaGreatDoor.Err
open Go.RowKit Go.Extern.Stop Go.Stop Go.Extern
abbrev hd (T : Nat) : Value := .pointer (some ⟨1, T, none⟩)
theorem valueOfPE (t : Addr) (w : World) : (ReflectliteValue.unpack (.iface 84 (.pointer (some t)))).run Tryz.prog w
    = .ok (.agg #[hd 84, .pointer (some ⟨w.heap.size, 0, none⟩), .int .u64 150]) (w.alloc (.cells #[.pointer (some t)] 84)) := by kernel_rfl
theorem typePE (a : Addr) (w : World) : (ReflectliteValue.methodAny (ReflectliteValue.valueError "reflectlite.Value.Type" 0) (fun t _ _ _ => ReflectliteType.toType t) #[.agg #[hd 84, .pointer (some a), .int .u64 150]]).run Tryz.prog w
    = .ok (.iface 153 (.agg #[hd 84])) w := by kernel_rfl
theorem kindPE (w : World) : ((ReflectliteType.abiMethod fun t => (fun a : Nat => Value.int IntKind.u8 (a : Int)) <$> Rtype.kind t) #[hd 84]).run Tryz.prog w = .ok (.int .u8 22) w := by kernel_rfl
theorem kindE (w : World) : ((ReflectliteType.abiMethod fun t => (fun a : Nat => Value.int IntKind.u8 (a : Int)) <$> Rtype.kind t) #[hd 74]).run Tryz.prog w = .ok (.int .u8 2) w := by kernel_rfl
theorem rlm (z : Sem Value) (f : TypeId → Addr → Nat → Nat → Sem Value) (v : Value) :
    ReflectliteValue.method z f #[v] = (do match ← ReflectliteValue.parts v with | none => z | some (t, a, fl) => f t a fl (fl % 32)) := rfl
theorem partsPE (a : Addr) (w : World) : (ReflectliteValue.parts (.agg #[hd 84, .pointer (some a), .int .u64 150])).run Tryz.prog w = .ok (some (84, a, 150)) w := by kernel_rfl
theorem isNilPE (a p : Addr) (W : World) (ha : W.cell? a = some (.pointer (some p))) :
    (ReflectliteValue.method (ReflectliteValue.valueError "reflectlite.Value.IsNil" 0) ReflectliteValue.isNil #[.agg #[hd 84, .pointer (some a), .int .u64 150]]).run Tryz.prog W = .ok (.bool false) W := by
  rw [rlm]
  simp only [Sem.run_bind, partsPE, Result.andThen]
  simp [ReflectliteValue.isNil, loadVar, isAgg, underlying, Tryz.underlying84, ha, Result.andThen]
theorem elemPE (w : World) : (ReflectliteType.method ReflectliteType.elem #[.agg #[hd 84]]).run Tryz.prog w = .ok (.iface 153 (.agg #[hd 74])) w := by kernel_rfl
theorem implE (w : World) : (ReflectliteType.relation "Implements" ReflectliteType.implements_ #[.agg #[hd 74], .iface 153 (.agg #[hd 26])]).run Tryz.prog w = .ok (.bool true) w := by kernel_rfl
theorem typeOfE (v : Value) (w : World) : (ReflectliteType.typeOf #[.iface 74 v]).run Tryz.prog w = .ok (.iface 153 (.agg #[hd 74])) w := by kernel_rfl
theorem typeOfF (v : Value) (w : World) : (ReflectliteType.typeOf #[.iface 111 v]).run Tryz.prog w = .ok (.iface 153 (.agg #[hd 111])) w := by kernel_rfl
theorem assEE (w : World) : (ReflectliteType.relation "AssignableTo" ReflectliteType.assignableTo #[.agg #[hd 74], .iface 153 (.agg #[hd 74])]).run Tryz.prog w = .ok (.bool true) w := by kernel_rfl
theorem assFE (w : World) : (ReflectliteType.relation "AssignableTo" ReflectliteType.assignableTo #[.agg #[hd 111], .iface 153 (.agg #[hd 74])]).run Tryz.prog w = .ok (.bool false) w := by kernel_rfl
theorem valueOfE (n : Int) (w : World) : (ReflectliteValue.unpack (.iface 74 (.int .i64 n))).run Tryz.prog w
    = .ok (.agg #[hd 74, .pointer (some ⟨w.heap.size, 0, none⟩), .int .u64 130]) (w.alloc (.cells #[.int .i64 n] 74)) := by kernel_rfl
theorem elemOfPE (w : World) : (Rtype.elem? 84).run Tryz.prog w = .ok (some 74) w := by kernel_rfl
theorem mkE (p : Addr) (w : World) : (ReflectliteValue.mk 74 p ReflectliteValue.flagAddr).run Tryz.prog w = .ok (.agg #[hd 74, .pointer (some p), .int .u64 386]) w := by kernel_rfl
theorem elemVE (a p : Addr) (W : World) (ha : W.cell? a = some (.pointer (some p))) :
    (ReflectliteValue.method (ReflectliteValue.valueError "reflectlite.Value.Elem" 0) ReflectliteValue.elem #[.agg #[hd 84, .pointer (some a), .int .u64 150]]).run Tryz.prog W
      = .ok (.agg #[hd 74, .pointer (some p), .int .u64 386]) W := by
  rw [rlm]
  simp only [Sem.run_bind, partsPE, Result.andThen]
  simp [ReflectliteValue.elem, loadVar, isAgg, underlying, Tryz.underlying84, ha, Result.andThen, elemOfPE, mkE]
theorem rls (v x : Value) : ReflectliteValue.set #[v, x] = (do
    let (some (dst, a, fl), some (src, b, _)) := (← ReflectliteValue.parts v, ← ReflectliteValue.parts x)
      | unsupported (.noEntry "extern/(internal/reflectlite.Value).Set.zeroValue")
    if fl / ReflectliteValue.flagAddr % 2 == 0 then unsupported (.noEntry "extern/(internal/reflectlite.Value).Set.unaddressable")
    let val ← loadVar src b
    if ← Rtype.directlyAssignable dst src then storeVar dst a val
    else if ← Rtype.implements dst src then
      if (← Rtype.kind src) == 20 then
        match val with
        | .nilIface => unsupported (.noEntry "extern/reflectlite: a nil value of one interface type handed on as a value of another")
        | _ => storeVar dst a val
      else storeVar dst a (.iface src val)
    else panicString ("reflectlite.Set: value of type " ++ (← Rtype.spelt src) ++ " is not assignable to type " ++ (← Rtype.spelt dst))
    pure (.tuple #[])) := rfl
theorem partsEa (a : Addr) (w : World) : (ReflectliteValue.parts (.agg #[hd 74, .pointer (some a), .int .u64 386])).run Tryz.prog w = .ok (some (74, a, 386)) w := by kernel_rfl
theorem partsE (a : Addr) (w : World) : (ReflectliteValue.parts (.agg #[hd 74, .pointer (some a), .int .u64 130])).run Tryz.prog w = .ok (some (74, a, 130)) w := by kernel_rfl
theorem directE (w : World) : (Rtype.directlyAssignable 74 74).run Tryz.prog w = .ok true w := by kernel_rfl
theorem setE (ta b : Addr) (n : Int) (old : Value) (W : World) (hb : W.cell? b = some (.int .i64 n)) (ht : W.cell? ta = some old) (hf : W.frozen? ta = false) :
    (ReflectliteValue.set #[.agg #[hd 74, .pointer (some ta), .int .u64 386], .agg #[hd 74, .pointer (some b), .int .u64 130]]).run Tryz.prog W
      = .ok (.tuple #[]) (W.setCell ta (.int .i64 n)) := by
  rw [rls]
  simp only [Sem.run_bind, partsEa, partsE, Result.andThen]
  simp [ReflectliteValue.flagAddr, loadVar, isAgg, underlying, Tryz.underlying74, hb, Result.andThen, directE, storeVar, Value.cells, storeCells, Addr.add]
  rw [run_store Tryz.prog W ta _ _ (by rfl)]
  simp [ht, hf]
theorem noAsF (v : Value) (xT : TypeId) (w : World) : (Instr.typeAssert (.iface 111 v) xT 157 true).run Tryz.prog w = .ok (.tuple #[.nilIface, .bool false]) w := run_typeAssert_lacksB Tryz.underlying157 (by kernel_rfl) (by kernel_rfl) v xT w
theorem unwrapF (v : Value) (xT : TypeId) (w : World) : (Instr.typeAssert (.iface 111 v) xT 160 true).run Tryz.prog w = .ok (.tuple #[.iface 111 v, .bool true]) w := run_typeAssert_hasB Tryz.underlying160 (by kernel_rfl) v xT w
theorem unwrapE (v : Value) (xT : TypeId) (w : World) : (Instr.typeAssert (.iface 74 v) xT 160 true).run Tryz.prog w = .ok (.tuple #[.nilIface, .bool false]) w := run_typeAssert_lacksB Tryz.underlying160 (by kernel_rfl) (by kernel_rfl) v xT w
theorem unwrapsE (v : Value) (xT : TypeId) (w : World) : (Instr.typeAssert (.iface 74 v) xT 161 true).run Tryz.prog w = .ok (.tuple #[.nilIface, .bool false]) w := run_typeAssert_lacksB Tryz.underlying161 (by kernel_rfl) (by kernel_rfl) v xT w
theorem callValueOf (args : Array Value) (w : World) : (callFunc 57 args).run Tryz.prog w = ((ReflectliteValue.unpack (args.getD 0 (.tuple #[]))).run Tryz.prog w).andThen fun v w' => .ok (.value v) w' :=
  @run_callFunc_extern Tryz.prog 57 _ (fun args => ReflectliteValue.unpack (args.getD 0 (.tuple #[]))) Tryz.func57 (by kernel_rfl) (by kernel_rfl) (by kernel_rfl) (by kernel_rfl) args w
theorem callType (args : Array Value) (w : World) : (callFunc 58 args).run Tryz.prog w = (((ReflectliteValue.methodAny (ReflectliteValue.valueError "reflectlite.Value.Type" 0) (fun t _ _ _ => ReflectliteType.toType t)) args).run Tryz.prog w).andThen fun v w' => .ok (.value v) w' :=
  @run_callFunc_extern Tryz.prog 58 _ (ReflectliteValue.methodAny (ReflectliteValue.valueError "reflectlite.Value.Type" 0) (fun t _ _ _ => ReflectliteType.toType t)) Tryz.func58 (by kernel_rfl) (by kernel_rfl) (by kernel_rfl) (by kernel_rfl) args w
theorem callIsNil (args : Array Value) (w : World) : (callFunc 59 args).run Tryz.prog w = (((ReflectliteValue.method (ReflectliteValue.valueError "reflectlite.Value.IsNil" 0) ReflectliteValue.isNil) args).run Tryz.prog w).andThen fun v w' => .ok (.value v) w' :=
  @run_callFunc_extern Tryz.prog 59 _ (ReflectliteValue.method (ReflectliteValue.valueError "reflectlite.Value.IsNil" 0) ReflectliteValue.isNil) Tryz.func59 (by kernel_rfl) (by kernel_rfl) (by kernel_rfl) (by kernel_rfl) args w
theorem callKind (args : Array Value) (w : World) : (callFunc 113 args).run Tryz.prog w = (((ReflectliteType.abiMethod fun t => do pure (.int .u8 (← Rtype.kind t))) args).run Tryz.prog w).andThen fun v w' => .ok (.value v) w' :=
  @run_callFunc_extern Tryz.prog 113 _ (ReflectliteType.abiMethod fun t => do pure (.int .u8 (← Rtype.kind t))) Tryz.func113 (by kernel_rfl) (by kernel_rfl) (by kernel_rfl) (by kernel_rfl) args w
theorem callElemT (args : Array Value) (w : World) : (callFunc 125 args).run Tryz.prog w = (((ReflectliteType.method ReflectliteType.elem) args).run Tryz.prog w).andThen fun v w' => .ok (.value v) w' :=
  @run_callFunc_extern Tryz.prog 125 _ (ReflectliteType.method ReflectliteType.elem) Tryz.func125 (by kernel_rfl) (by kernel_rfl) (by kernel_rfl) (by kernel_rfl) args w
theorem callImplements (args : Array Value) (w : World) : (callFunc 126 args).run Tryz.prog w = (((ReflectliteType.relation "Implements" ReflectliteType.implements_) args).run Tryz.prog w).andThen fun v w' => .ok (.value v) w' :=
  @run_callFunc_extern Tryz.prog 126 _ (ReflectliteType.relation "Implements" ReflectliteType.implements_) Tryz.func126 (by kernel_rfl) (by kernel_rfl) (by kernel_rfl) (by kernel_rfl) args w
theorem callTypeOf (args : Array Value) (w : World) : (callFunc 83 args).run Tryz.prog w = ((ReflectliteType.typeOf args).run Tryz.prog w).andThen fun v w' => .ok (.value v) w' :=
  @run_callFunc_extern Tryz.prog 83 _ ReflectliteType.typeOf Tryz.func83 (by kernel_rfl) (by kernel_rfl) (by kernel_rfl) (by kernel_rfl) args w
theorem callAssignable (args : Array Value) (w : World) : (callFunc 123 args).run Tryz.prog w = (((ReflectliteType.relation "AssignableTo" ReflectliteType.assignableTo) args).run Tryz.prog w).andThen fun v w' => .ok (.value v) w' :=
  @run_callFunc_extern Tryz.prog 123 _ (ReflectliteType.relation "AssignableTo" ReflectliteType.assignableTo) Tryz.func123 (by kernel_rfl) (by kernel_rfl) (by kernel_rfl) (by kernel_rfl) args w
theorem callElemV (args : Array Value) (w : World) : (callFunc 85 args).run Tryz.prog w = (((ReflectliteValue.method (ReflectliteValue.valueError "reflectlite.Value.Elem" 0) ReflectliteValue.elem) args).run Tryz.prog w).andThen fun v w' => .ok (.value v) w' :=
  @run_callFunc_extern Tryz.prog 85 _ (ReflectliteValue.method (ReflectliteValue.valueError "reflectlite.Value.Elem" 0) ReflectliteValue.elem) Tryz.func85 (by kernel_rfl) (by kernel_rfl) (by kernel_rfl) (by kernel_rfl) args w
theorem callSet (args : Array Value) (w : World) : (callFunc 86 args).run Tryz.prog w = ((ReflectliteValue.set args).run Tryz.prog w).andThen fun v w' => .ok (.value v) w' :=
  @run_callFunc_extern Tryz.prog 86 _ ReflectliteValue.set Tryz.func86 (by kernel_rfl) (by kernel_rfl) (by kernel_rfl) (by kernel_rfl) args w
theorem goTypeOfF (v : Value) (w : World) : (callFunc 83 #[.iface 111 v]).run Tryz.prog w = .ok (.value (.iface 153 (.agg #[hd 111]))) w := by rw [callTypeOf, typeOfF]; rfl
theorem goTypeOfE (v : Value) (w : World) : (callFunc 83 #[.iface 74 v]).run Tryz.prog w = .ok (.value (.iface 153 (.agg #[hd 74]))) w := by rw [callTypeOf, typeOfE]; rfl
theorem goAssFE (w : World) : (callFunc 123 #[.agg #[hd 111], .iface 153 (.agg #[hd 74])]).run Tryz.prog w = .ok (.value (.bool false)) w := by rw [callAssignable, assFE]; rfl
theorem goAssEE (w : World) : (callFunc 123 #[.agg #[hd 74], .iface 153 (.agg #[hd 74])]).run Tryz.prog w = .ok (.value (.bool true)) w := by rw [callAssignable, assEE]; rfl
theorem goValueOfE (n : Int) (w : World) : (callFunc 57 #[.iface 74 (.int .i64 n)]).run Tryz.prog w = .ok (.value (.agg #[hd 74, .pointer (some ⟨w.heap.size, 0, none⟩), .int .u64 130])) (w.alloc (.cells #[.int .i64 n] 74)) := by rw [callValueOf]; exact congrArg (fun r : Result Value => r.andThen fun v w' => Result.ok (Next.value v) w') (valueOfE n w)
theorem goElemVE (a p : Addr) (W : World) (ha : W.cell? a = some (.pointer (some p))) : (callFunc 85 #[.agg #[hd 84, .pointer (some a), .int .u64 150]]).run Tryz.prog W = .ok (.value (.agg #[hd 74, .pointer (some p), .int .u64 386])) W := by rw [callElemV, elemVE a p W ha]; rfl
theorem goSetE (ta b : Addr) (n : Int) (old : Value) (W : World) (hb : W.cell? b = some (.int .i64 n)) (ht : W.cell? ta = some old) (hf : W.frozen? ta = false) : (callFunc 86 #[.agg #[hd 74, .pointer (some ta), .int .u64 386], .agg #[hd 74, .pointer (some b), .int .u64 130]]).run Tryz.prog W = .ok (.value (.tuple #[])) (W.setCell ta (.int .i64 n)) := by rw [callSet, setE ta b n old W hb ht hf]; rfl
theorem goValueOfPE (t : Addr) (w : World) : (callFunc 57 #[.iface 84 (.pointer (some t))]).run Tryz.prog w = .ok (.value (.agg #[hd 84, .pointer (some ⟨w.heap.size, 0, none⟩), .int .u64 150])) (w.alloc (.cells #[.pointer (some t)] 84)) := by rw [callValueOf]; exact congrArg (fun r : Result Value => r.andThen fun v w' => Result.ok (Next.value v) w') (valueOfPE t w)
theorem goTypePE (a : Addr) (w : World) : (callFunc 58 #[.agg #[hd 84, .pointer (some a), .int .u64 150]]).run Tryz.prog w = .ok (.value (.iface 153 (.agg #[hd 84]))) w := by rw [callType, typePE]; rfl
theorem goKindPE (w : World) : (callFunc 113 #[hd 84]).run Tryz.prog w = .ok (.value (.int .u8 22)) w := by rw [callKind]; exact congrArg (fun r : Result Value => r.andThen fun v w' => Result.ok (Next.value v) w') (kindPE w)
theorem goKindE (w : World) : (callFunc 113 #[hd 74]).run Tryz.prog w = .ok (.value (.int .u8 2)) w := by rw [callKind]; exact congrArg (fun r : Result Value => r.andThen fun v w' => Result.ok (Next.value v) w') (kindE w)
theorem goIsNilPE (a p : Addr) (W : World) (ha : W.cell? a = some (.pointer (some p))) : (callFunc 59 #[.agg #[hd 84, .pointer (some a), .int .u64 150]]).run Tryz.prog W = .ok (.value (.bool false)) W := by rw [callIsNil, isNilPE a p W ha]; rfl
theorem goElemPE (w : World) : (callFunc 125 #[.agg #[hd 84]]).run Tryz.prog w = .ok (.value (.iface 153 (.agg #[hd 74]))) w := by rw [callElemT, elemPE]; rfl
theorem goImplE (w : World) : (callFunc 126 #[.agg #[hd 74], .iface 153 (.agg #[hd 26])]).run Tryz.prog w = .ok (.value (.bool true)) w := by rw [callImplements, implE]; rfl
theorem mAssignable (h : Value) (w : World) : (Go.method 311 153 (.agg #[h]) "AssignableTo").run Tryz.prog w = .ok (123, .agg #[h]) w := by kernel_rfl
theorem mKind (h : Value) (w : World) : (Go.method 311 153 (.agg #[h]) "Kind").run Tryz.prog w = .ok (113, h) w := by kernel_rfl
theorem mElem (h : Value) (w : World) : (Go.method 311 153 (.agg #[h]) "Elem").run Tryz.prog w = .ok (125, .agg #[h]) w := by kernel_rfl
theorem mImplements (h : Value) (w : World) : (Go.method 311 153 (.agg #[h]) "Implements").run Tryz.prog w = .ok (126, .agg #[h]) w := by kernel_rfl
theorem mUnwrap (a : Addr) (w : World) : (Go.method 311 111 (.pointer (some a)) "Unwrap").run Tryz.prog w = .ok (118, .pointer (some a)) w := by kernel_rfl
inductive Chain (w : World) : Value → Int → List (ByteArray × ByteArray) → Prop where
  | base (n : Int) : Chain w (.iface 74 (.int .i64 n)) n []
  | wrap (b : Nat) (op path : ByteArray) (e : Value) (n : Int) (l : List (ByteArray × ByteArray)) (hb : w.heap[b]? = some (Obj.cells #[.string op, .string path, e] 113 (0, 0))) (h : Chain w e n l) : Chain w (.iface 111 (.pointer (some ⟨b, 0, none⟩))) n ((op, path) :: l)
theorem Chain.keep {w w' : World} {v : Value} {n : Int} {l : List (ByteArray × ByteArray)} (h : Chain w v n l) (hk : ∀ (b : Nat) (cs : Array Value), w.heap[b]? = some (Obj.cells cs 113 (0, 0)) → w'.heap[b]? = some (Obj.cells cs 113 (0, 0))) : Chain w' v n l := by
  induction h with
  | base n => exact .base n
  | wrap b op path e n l hb _ ih => exact .wrap b op path e n l (hk _ _ hb) ih
theorem Chain.iface {w : World} {v : Value} {n : Int} {l : List (ByteArray × ByteArray)} (h : Chain w v n l) : ∃ T x, v = .iface T x := by
  cases h with
  | base => exact ⟨_, _, rfl⟩
  | wrap => exact ⟨_, _, rfl⟩
theorem lt_of_block {w : World} {b : Nat} {o : Obj} (h : w.heap[b]? = some o) : b < w.heap.size := by
  rcases Nat.lt_or_ge b w.heap.size with hlt | hge
  · exact hlt
  · rw [Array.getElem?_eq_none hge] at h; cases h
theorem Chain.on {w w' : World} {v : Value} {n : Int} {l : List (ByteArray × ByteArray)} (h : Chain w v n l) (hb : Below w.heap.size w w') : Chain w' v n l :=
  h.keep fun b cs hc => (hb.block b (lt_of_block hc)).trans hc
theorem cell_of_blk {w : World} {b : Nat} {cs : Array Value} {t : TypeId} (h : w.heap[b]? = some (Obj.cells cs t (0, 0))) (i : Nat) : w.cell? ⟨b, i, none⟩ = cs[i]? := cell_of_row w b i cs t (0, 0) h
theorem unwrap_c (b : Nat) (op path : ByteArray) (e : Value) (w : World) (hb : w.heap[b]? = some (Obj.cells #[.string op, .string path, e] 113 (0, 0))) :
    Calls Tryz.prog 118 #[.pointer (some ⟨b, 0, none⟩)] w fun ev w' => ev = .returned e ∧ w' = w := by
  have hc : w.cell? ⟨b, 2, none⟩ = some e := cell_of_blk hb 2
  clear hb
  go_enter Tryz.func118, Tryz.ntmps118
  go_wp2
  go_ret
  exact ⟨rfl, rfl⟩
theorem at_nil (op path : ByteArray) (w : World) : Calls Tryz.prog 31 #[.string op, .string path, .nilIface] w fun ev w' => ev = .returned .nilIface ∧ w' = w := by
  go_enter Tryz.func31, Tryz.ntmps31
  go_wp2
  go_ret
  exact ⟨rfl, rfl⟩
theorem at_some (op path : ByteArray) (T : TypeId) (x : Value) (w : World) : Calls Tryz.prog 31 #[.string op, .string path, .iface T x] w fun ev w' => ev = .returned (.iface 111 (.pointer (some ⟨w.heap.size, 0, none⟩))) ∧ w' = w.alloc (.cells #[.string op, .string path, .iface T x] 113) := by
  go_enter Tryz.func31, Tryz.ntmps31
  go_wp2
  go_ret
  exact ⟨rfl, rfl⟩
def Wrote (w w' : World) (t : Addr) (x : Value) : Prop := ∃ w1, Below w.heap.size w w1 ∧ w' = w1.setCell t x
set_option maxHeartbeats 4000000 in
set_option maxRecDepth 100000 in
theorem as_num (v : Value) (n : Int) (l : List (ByteArray × ByteArray)) (t b : Addr) (old : Value) (w : World) (hch : Hid (Chain w v n l)) (ht : w.cell? t = some old) (hf : w.frozen? t = false) (hb : w.cell? b = some (.pointer (some t))) :
    Calls Tryz.prog 60 #[v, .iface 84 (.pointer (some t)), .agg #[hd 84, .pointer (some b), .int .u64 150], .iface 153 (.agg #[hd 74])] w
      fun ev w' => ev = .returned (.bool true) ∧ Wrote w w' t (.int .i64 n) := by
  go_enter Tryz.func60, Tryz.ntmps60
  have h1 : Hid (Chain (w.alloc (.cells #[hd 84, .pointer (some b), .int .u64 150] 118)) v n l) := hch.out.on ((Below.refl _ _).alloc (Nat.le_refl _) _)
  go_wp2
  go_loopg [0] l.length (fun kq v0 w' => ∃ l' : List (ByteArray × ByteArray), Hid (l'.length = kq) ∧ Hid (Chain w' v0 n l') ∧ w' = w.alloc (.cells #[hd 84, .pointer (some b), .int .u64 150] 118))
  case atStart => exact ⟨l, rfl, h1, rfl⟩
  case round =>
    clear h1
    obtain ⟨l', hl, hc, rfl⟩ := hrel
    cases hc.out with
    | base =>
      clear hc hl hch
      have tE := goTypeOfE
      have aE := goAssEE
      have m1 := mAssignable
      have vE := goValueOfE
      have htl : t.block < w.heap.size := by
        rcases Nat.lt_or_ge t.block w.heap.size with h | h
        · exact h
        · simp [World.cell?, Array.getElem?_eq_none h] at ht
      have hbl : b.block < w.heap.size := by
        rcases Nat.lt_or_ge b.block w.heap.size with h | h
        · exact h
        · simp [World.cell?, Array.getElem?_eq_none h] at hb
      have eV := goElemVE b t (w.alloc (.cells #[hd 84, .pointer (some b), .int .u64 150] 118)) (by rw [World.cell?_alloc_lt _ _ b hbl]; exact hb)
      have sV := goSetE t ⟨w.heap.size + 1, 0, none⟩ n old ((w.alloc (.cells #[hd 84, .pointer (some b), .int .u64 150] 118)).alloc (.cells #[.int .i64 n] 74))
        (by rw [World.cell?_alloc_at _ _ _ _ (by simp)]; rfl) (by rw [World.cell?_alloc_lt _ _ t (by simp; omega), World.cell?_alloc_lt _ _ t htl]; exact ht) (by rw [World.frozen?_alloc_old _ _ t (by simp; omega), World.frozen?_alloc_old _ _ t (Nat.ne_of_lt htl)]; exact hf)
      go_wp2_with fail
      go_ret
      exact ⟨rfl, _, ((Below.refl _ _).alloc (Nat.le_refl _) _).alloc (by simp) _, rfl⟩
    | wrap c op path e _ l2 hblk hnext =>
      obtain ⟨T, x, rfl⟩ := hnext.iface
      have HN := Lib.hid hnext
      have HK := Lib.hid hblk
      clear hnext hblk hc
      have tF := goTypeOfF
      have aF := goAssFE
      have nF := noAsF
      have uF := unwrapF
      have m1 := mAssignable
      have m2 := mUnwrap
      cases gk with
      | zero => exact absurd hl.out (by simp)
      | succ k1 =>
        go_wp2_with fail
        refine (unwrap_c c op path (.iface T x) _ HK.out).mono ?_
        rintro ev w' ⟨rfl, rfl⟩
        go_wp2_with fail
        go_roundg k1
        case measure => exact Nat.lt_succ_self _
        case rel => exact ⟨l2, Lib.hid (by have := hl.out; simpa using this), HN, rfl⟩
theorem Wrote.cell {w w' : World} {t : Addr} {x old : Value} (h : Wrote w w' t x) (ht : w.cell? t = some old) : w'.cell? t = some x := by
  obtain ⟨w1, h1, rfl⟩ := h
  have htl : t.block < w.heap.size := by
    rcases Nat.lt_or_ge t.block w.heap.size with h | h
    · exact h
    · simp [World.cell?, Array.getElem?_eq_none h] at ht
  exact World.cell?_setCell_same w1 t x ((h1.cell htl).trans ht)
theorem Wrote.below {w0 w w' : World} {t : Addr} {x : Value} (h : Wrote w w' t x) (hb : Below w0.heap.size w0 w) (ht : w0.heap.size ≤ t.block) : Below w0.heap.size w0 w' := by
  obtain ⟨w1, h1, rfl⟩ := h
  exact (hb.trans (h1.mono hb.size)).setCell ht x
theorem Wrote.on {w0 w w' : World} {t : Addr} {x : Value} (h : Wrote w w' t x) (hb : Below w0.heap.size w0 w) : Wrote w0 w' t x := by
  obtain ⟨w1, h1, rfl⟩ := h
  exact ⟨w1, hb.trans (h1.mono hb.size), rfl⟩
set_option maxHeartbeats 4000000 in
set_option maxRecDepth 100000 in
theorem As_num (v : Value) (n : Int) (l : List (ByteArray × ByteArray)) (t : Addr) (old : Value) (w : World) (hch : Hid (Chain w v n l)) (hg : w.cell? ⟨0, 0, none⟩ = some (.iface 153 (.agg #[hd 26]))) (ht : w.cell? t = some old) (hf : w.frozen? t = false) :
    Calls Tryz.prog 34 #[v, .iface 84 (.pointer (some t))] w fun ev w' => ev = .returned (.bool true) ∧ Wrote w w' t (.int .i64 n) := by
  obtain ⟨T, x, rfl⟩ := hch.out.iface
  have v1 := goValueOfPE
  have v2 := goTypePE
  have v3 := goKindPE
  have v4 := goKindE
  have v5 := goElemPE
  have v6 := goImplE
  have m1 := mKind
  have m2 := mElem
  have m3 := mImplements
  have hlt : 0 < w.heap.size := by
    rcases Nat.eq_zero_or_pos w.heap.size with h0 | h
    · simp [World.cell?, h0] at hg
    · exact h
  have htl : t.block < w.heap.size := by
    rcases Nat.lt_or_ge t.block w.heap.size with h | h
    · exact h
    · simp [World.cell?, Array.getElem?_eq_none h] at ht
  have n8 := goIsNilPE ⟨w.heap.size, 0, none⟩ t ((w.alloc (.cells #[.pointer (some t)] 84)).alloc (.cells #[hd 84, .pointer (some ⟨w.heap.size, 0, none⟩), .int .u64 150] 118)) (by rw [World.cell?_alloc_lt _ _ ⟨w.heap.size, 0, none⟩ (by simp)]; simp)
  have hg2 : ((w.alloc (.cells #[.pointer (some t)] 84)).alloc (.cells #[hd 84, .pointer (some ⟨w.heap.size, 0, none⟩), .int .u64 150] 118)).cell? ⟨0, 0, none⟩ = some (.iface 153 (.agg #[hd 26])) := by
    rw [World.cell?_alloc_lt _ _ ⟨0, 0, none⟩ (by simp), World.cell?_alloc_lt _ _ ⟨0, 0, none⟩ hlt]; exact hg
  have hB : Below w.heap.size w ((w.alloc (.cells #[.pointer (some t)] 84)).alloc (.cells #[hd 84, .pointer (some ⟨w.heap.size, 0, none⟩), .int .u64 150] 118)) := ((Below.refl _ _).alloc (Nat.le_refl _) _).alloc (by simp) _
  have HB := Lib.hid hB
  have hch2 : Hid (Chain ((w.alloc (.cells #[.pointer (some t)] 84)).alloc (.cells #[hd 84, .pointer (some ⟨w.heap.size, 0, none⟩), .int .u64 150] 118)) (.iface T x) n l) := hch.out.on hB
  have ht2 := Lib.hid ((hB.cell htl).trans ht)
  have hf2 := Lib.hid ((hB.frozen htl).trans hf)
  clear hB
  go_enter Tryz.func34, Tryz.ntmps34
  go_wp2_with fail
  refine (as_num (.iface T x) n l t ⟨w.heap.size, 0, none⟩ old _ hch2 ht2.out hf2.out (by rw [World.cell?_alloc_lt _ _ ⟨w.heap.size, 0, none⟩ (by simp)]; simp)).mono ?_
  rintro ev w' ⟨rfl, hw⟩
  have HW := Lib.hid (hw.on HB.out)
  clear hw
  go_wp2_with fail
  go_ret
  exact ⟨rfl, HW.out⟩
theorem code_nil (w : World) : Calls Tryz.prog 10 #[.nilIface] w fun ev w' => ev = .returned (.int .i64 0) ∧ Below w.heap.size w w' := by
  go_enter Tryz.func10, Tryz.ntmps10
  go_wp2
  go_ret
  exact ⟨rfl, (Below.refl _ _).alloc (Nat.le_refl _) _⟩
set_option maxHeartbeats 4000000 in
set_option maxRecDepth 100000 in
theorem code_num (v : Value) (n : Int) (l : List (ByteArray × ByteArray)) (w : World) (hch : Hid (Chain w v n l)) (hg : w.cell? ⟨0, 0, none⟩ = some (.iface 153 (.agg #[hd 26]))) :
    Calls Tryz.prog 10 #[v] w fun ev w' => ev = .returned (.int .i64 n) ∧ Below w.heap.size w w' := by
  obtain ⟨T, x, rfl⟩ := hch.out.iface
  have hlt : 0 < w.heap.size := by
    rcases Nat.eq_zero_or_pos w.heap.size with h0 | h
    · simp [World.cell?, h0] at hg
    · exact h
  have hB : Below w.heap.size w (w.alloc (.cells #[.int .i64 0] 74)) := (Below.refl _ _).alloc (Nat.le_refl _) _
  have HB := Lib.hid hB
  have hch2 : Hid (Chain (w.alloc (.cells #[.int .i64 0] 74)) (.iface T x) n l) := hch.out.on hB
  have hg2 := Lib.hid ((hB.cell (p := ⟨0, 0, none⟩) hlt).trans hg)
  have ht : (w.alloc (.cells #[.int .i64 0] 74)).cell? ⟨w.heap.size, 0, none⟩ = some (.int .i64 0) := by simp
  have HT := Lib.hid ht
  clear hB ht
  go_enter Tryz.func10, Tryz.ntmps10
  go_wp2_with fail
  refine (As_num (.iface T x) n l ⟨w.heap.size, 0, none⟩ (.int .i64 0) _ hch2 hg2.out HT.out (by simp)).mono ?_
  rintro ev w' ⟨rfl, hw⟩
  have hcell := hw.cell HT.out
  have HW := Lib.hid (hw.below HB.out (Nat.le_refl _))
  clear hw
  go_wp2_with fail
  go_ret
  exact ⟨rfl, HW.out⟩
def IsErr (w : World) (v : Value) (n : Int) : Prop := (v = .nilIface ∧ n = 0) ∨ ∃ l, Chain w v n l
theorem IsErr.on {w w' : World} {v : Value} {n : Int} (h : IsErr w v n) (hb : Below w.heap.size w w') : IsErr w' v n := by
  rcases h with h | ⟨l, h⟩
  · exact .inl h
  · exact .inr ⟨l, h.on hb⟩
def Laid (w : World) : Prop := w.cell? ⟨0, 0, none⟩ = some (.iface 153 (.agg #[hd 26]))
theorem Laid.on {w w' : World} (h : Laid w) (hb : Below w.heap.size w w') : Laid w' := by
  have hlt : 0 < w.heap.size := by
    rcases Nat.eq_zero_or_pos w.heap.size with h0 | hp
    · unfold Laid at h; simp [World.cell?, h0] at h
    · exact hp
  exact (hb.cell (p := ⟨0, 0, none⟩) hlt).trans h
theorem code_c (v : Value) (n : Int) (w : World) (he : Hid (IsErr w v n)) (hg : Hid (Laid w)) : Calls Tryz.prog 10 #[v] w fun ev w' => ev = .returned (.int .i64 n) ∧ Below w.heap.size w w' := by
  rcases he.out with ⟨rfl, rfl⟩ | ⟨l, h⟩
  · exact code_nil w
  · exact code_num v n l w h hg.out
end Go.Proofs.YtaodgnladjafoaaGreatDoor.Err
