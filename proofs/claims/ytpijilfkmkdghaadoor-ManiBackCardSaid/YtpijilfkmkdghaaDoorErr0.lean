/- Closed facts on the model's entries for internal/reflectlite at the two targets of errors.As that package fail has: an Errno's variable, a *Fault's variable. -/
import Derived.Test.YtpijilfkmkdghaaDoorProg
import Derived.WalkKit
import Derived.LaidEql
import Derived.Stop.Asserts
import Derived.RowKitTokens
import Derived.Lib.Hide
set_option linter.unusedVariables false
namespace Go.Proofs.YtpijilfkmkdghaaDoor.Err
open Go.RowKit Go.Extern.Stop Go.Stop Go.Extern
/-- a type's handle -/
abbrev hd (T : Nat) : Value := .pointer (some ⟨1, T, none⟩)
theorem valueOfPE (t : Addr) (w : World) : (ReflectliteValue.unpack (.iface 63 (.pointer (some t)))).run Tryd.prog w
    = .ok (.agg #[hd 63, .pointer (some ⟨w.heap.size, 0, none⟩), .int .u64 150]) (w.alloc (.cells #[.pointer (some t)] 63)) := by kernel_rfl
theorem typePE (a : Addr) (w : World) : (ReflectliteValue.methodAny (ReflectliteValue.valueError "reflectlite.Value.Type" 0) (fun t _ _ _ => ReflectliteType.toType t) #[.agg #[hd 63, .pointer (some a), .int .u64 150]]).run Tryd.prog w
    = .ok (.iface 104 (.agg #[hd 63])) w := by kernel_rfl
theorem kindPE (w : World) : ((ReflectliteType.abiMethod fun t => (fun a : Nat => Value.int IntKind.u8 (a : Int)) <$> Rtype.kind t) #[hd 63]).run Tryd.prog w = .ok (.int .u8 22) w := by kernel_rfl
theorem kindE (w : World) : ((ReflectliteType.abiMethod fun t => (fun a : Nat => Value.int IntKind.u8 (a : Int)) <$> Rtype.kind t) #[hd 59]).run Tryd.prog w = .ok (.int .u8 2) w := by kernel_rfl
theorem rlm (z : Sem Value) (f : TypeId → Addr → Nat → Nat → Sem Value) (v : Value) :
    ReflectliteValue.method z f #[v] = (do match ← ReflectliteValue.parts v with | none => z | some (t, a, fl) => f t a fl (fl % 32)) := rfl
theorem partsPE (a : Addr) (w : World) : (ReflectliteValue.parts (.agg #[hd 63, .pointer (some a), .int .u64 150])).run Tryd.prog w = .ok (some (63, a, 150)) w := by kernel_rfl
theorem isNilPE (a p : Addr) (W : World) (ha : W.cell? a = some (.pointer (some p))) :
    (ReflectliteValue.method (ReflectliteValue.valueError "reflectlite.Value.IsNil" 0) ReflectliteValue.isNil #[.agg #[hd 63, .pointer (some a), .int .u64 150]]).run Tryd.prog W = .ok (.bool false) W := by
  rw [rlm]
  simp only [Sem.run_bind, partsPE, Result.andThen]
  simp [ReflectliteValue.isNil, loadVar, isAgg, underlying, Tryd.underlying63, ha, Result.andThen]
theorem elemPE (w : World) : (ReflectliteType.method ReflectliteType.elem #[.agg #[hd 63]]).run Tryd.prog w = .ok (.iface 104 (.agg #[hd 59])) w := by kernel_rfl
theorem implE (w : World) : (ReflectliteType.relation "Implements" ReflectliteType.implements_ #[.agg #[hd 59], .iface 104 (.agg #[hd 43])]).run Tryd.prog w = .ok (.bool true) w := by kernel_rfl
theorem typeOfE (v : Value) (w : World) : (ReflectliteType.typeOf #[.iface 59 v]).run Tryd.prog w = .ok (.iface 104 (.agg #[hd 59])) w := by kernel_rfl
theorem typeOfF (v : Value) (w : World) : (ReflectliteType.typeOf #[.iface 76 v]).run Tryd.prog w = .ok (.iface 104 (.agg #[hd 76])) w := by kernel_rfl
theorem assEE (w : World) : (ReflectliteType.relation "AssignableTo" ReflectliteType.assignableTo #[.agg #[hd 59], .iface 104 (.agg #[hd 59])]).run Tryd.prog w = .ok (.bool true) w := by kernel_rfl
theorem assFE (w : World) : (ReflectliteType.relation "AssignableTo" ReflectliteType.assignableTo #[.agg #[hd 76], .iface 104 (.agg #[hd 59])]).run Tryd.prog w = .ok (.bool false) w := by kernel_rfl
theorem valueOfE (n : Int) (w : World) : (ReflectliteValue.unpack (.iface 59 (.int .i64 n))).run Tryd.prog w
    = .ok (.agg #[hd 59, .pointer (some ⟨w.heap.size, 0, none⟩), .int .u64 130]) (w.alloc (.cells #[.int .i64 n] 59)) := by kernel_rfl
theorem elemOfPE (w : World) : (Rtype.elem? 63).run Tryd.prog w = .ok (some 59) w := by kernel_rfl
theorem mkE (p : Addr) (w : World) : (ReflectliteValue.mk 59 p ReflectliteValue.flagAddr).run Tryd.prog w = .ok (.agg #[hd 59, .pointer (some p), .int .u64 386]) w := by kernel_rfl
theorem elemVE (a p : Addr) (W : World) (ha : W.cell? a = some (.pointer (some p))) :
    (ReflectliteValue.method (ReflectliteValue.valueError "reflectlite.Value.Elem" 0) ReflectliteValue.elem #[.agg #[hd 63, .pointer (some a), .int .u64 150]]).run Tryd.prog W
      = .ok (.agg #[hd 59, .pointer (some p), .int .u64 386]) W := by
  rw [rlm]
  simp only [Sem.run_bind, partsPE, Result.andThen]
  simp [ReflectliteValue.elem, loadVar, isAgg, underlying, Tryd.underlying63, ha, Result.andThen, elemOfPE, mkE]
theorem rls (v x : Value) : ReflectliteValue.set #[v, x] = (do
    let (some (dst, a, fl), some (src, b, _)) := (← ReflectliteValue.parts v, ← ReflectliteValue.parts x)
      | unsupported (.noEntry "extern/(internal/reflectlite.Value).Set.zeroValue")
    if fl / ReflectliteValue.flagAddr % 2 == 0 then unsupported (.noEntry "extern/(internal/reflectlite.Value).Set.unaddressable")
    let val ← loadVar src b
    if ← Rtype.directlyAssignable dst src then storeVar dst a val
    else if ← Rtype.implements dst src then
      if (← Rtype.kind src) == 20 then
        match val with
        | .nilIface => unsupported (.noEntry "extern/reflectlite: a nil value of one interface type handed on as a value of another")
        | _ => storeVar dst a val
      else storeVar dst a (.iface src val)
    else panicString ("reflectlite.Set: value of type " ++ (← Rtype.spelt src) ++ " is not assignable to type " ++ (← Rtype.spelt dst))
    pure (.tuple #[])) := rfl
theorem partsEa (a : Addr) (w : World) : (ReflectliteValue.parts (.agg #[hd 59, .pointer (some a), .int .u64 386])).run Tryd.prog w = .ok (some (59, a, 386)) w := by kernel_rfl
theorem partsE (a : Addr) (w : World) : (ReflectliteValue.parts (.agg #[hd 59, .pointer (some a), .int .u64 130])).run Tryd.prog w = .ok (some (59, a, 130)) w := by kernel_rfl
theorem directE (w : World) : (Rtype.directlyAssignable 59 59).run Tryd.prog w = .ok true w := by kernel_rfl
theorem sizeE (w : World) : (sizeOf 59).run Tryd.prog w = .ok 1 w := by kernel_rfl
theorem setE (ta b : Addr) (n : Int) (old : Value) (W : World) (hb : W.cell? b = some (.int .i64 n)) (ht : W.cell? ta = some old) (hf : W.frozen? ta = false) :
    (ReflectliteValue.set #[.agg #[hd 59, .pointer (some ta), .int .u64 386], .agg #[hd 59, .pointer (some b), .int .u64 130]]).run Tryd.prog W
      = .ok (.tuple #[]) (W.setCell ta (.int .i64 n)) := by
  rw [rls]
  simp only [Sem.run_bind, partsEa, partsE, Result.andThen]
  simp [ReflectliteValue.flagAddr, loadVar, isAgg, underlying, Tryd.underlying59, hb, Result.andThen, directE, storeVar, Value.cells, storeCells, Addr.add]
  rw [run_store Tryd.prog W ta _ _ (by rfl)]
  simp [ht, hf]
/-! ### type assertions, methods -/
theorem noAsF (v : Value) (xT : TypeId) (w : World) : (Instr.typeAssert (.iface 76 v) xT 109 true).run Tryd.prog w = .ok (.tuple #[.nilIface, .bool false]) w := run_typeAssert_lacksB Tryd.underlying109 (by kernel_rfl) (by kernel_rfl) v xT w
theorem noAsE (v : Value) (xT : TypeId) (w : World) : (Instr.typeAssert (.iface 59 v) xT 109 true).run Tryd.prog w = .ok (.tuple #[.nilIface, .bool false]) w := run_typeAssert_lacksB Tryd.underlying109 (by kernel_rfl) (by kernel_rfl) v xT w
theorem unwrapF (v : Value) (xT : TypeId) (w : World) : (Instr.typeAssert (.iface 76 v) xT 112 true).run Tryd.prog w = .ok (.tuple #[.iface 76 v, .bool true]) w := run_typeAssert_hasB Tryd.underlying112 (by kernel_rfl) v xT w
theorem unwrapE (v : Value) (xT : TypeId) (w : World) : (Instr.typeAssert (.iface 59 v) xT 112 true).run Tryd.prog w = .ok (.tuple #[.nilIface, .bool false]) w := run_typeAssert_lacksB Tryd.underlying112 (by kernel_rfl) (by kernel_rfl) v xT w
theorem unwrapsE (v : Value) (xT : TypeId) (w : World) : (Instr.typeAssert (.iface 59 v) xT 114 true).run Tryd.prog w = .ok (.tuple #[.nilIface, .bool false]) w := run_typeAssert_lacksB Tryd.underlying114 (by kernel_rfl) (by kernel_rfl) v xT w
/-! ### the entries, as the walk calls them -/
theorem callValueOf (args : Array Value) (w : World) : (callFunc 37 args).run Tryd.prog w = ((ReflectliteValue.unpack (args.getD 0 (.tuple #[]))).run Tryd.prog w).andThen fun v w' => .ok (.value v) w' :=
  @run_callFunc_extern Tryd.prog 37 _ (fun args => ReflectliteValue.unpack (args.getD 0 (.tuple #[]))) Tryd.func37 (by kernel_rfl) (by kernel_rfl) (by kernel_rfl) (by kernel_rfl) args w
theorem callType (args : Array Value) (w : World) : (callFunc 38 args).run Tryd.prog w = (((ReflectliteValue.methodAny (ReflectliteValue.valueError "reflectlite.Value.Type" 0) (fun t _ _ _ => ReflectliteType.toType t)) args).run Tryd.prog w).andThen fun v w' => .ok (.value v) w' :=
  @run_callFunc_extern Tryd.prog 38 _ (ReflectliteValue.methodAny (ReflectliteValue.valueError "reflectlite.Value.Type" 0) (fun t _ _ _ => ReflectliteType.toType t)) Tryd.func38 (by kernel_rfl) (by kernel_rfl) (by kernel_rfl) (by kernel_rfl) args w
theorem callIsNil (args : Array Value) (w : World) : (callFunc 39 args).run Tryd.prog w = (((ReflectliteValue.method (ReflectliteValue.valueError "reflectlite.Value.IsNil" 0) ReflectliteValue.isNil) args).run Tryd.prog w).andThen fun v w' => .ok (.value v) w' :=
  @run_callFunc_extern Tryd.prog 39 _ (ReflectliteValue.method (ReflectliteValue.valueError "reflectlite.Value.IsNil" 0) ReflectliteValue.isNil) Tryd.func39 (by kernel_rfl) (by kernel_rfl) (by kernel_rfl) (by kernel_rfl) args w
theorem callKind (args : Array Value) (w : World) : (callFunc 68 args).run Tryd.prog w = (((ReflectliteType.abiMethod fun t => do pure (.int .u8 (← Rtype.kind t))) args).run Tryd.prog w).andThen fun v w' => .ok (.value v) w' :=
  @run_callFunc_extern Tryd.prog 68 _ (ReflectliteType.abiMethod fun t => do pure (.int .u8 (← Rtype.kind t))) Tryd.func68 (by kernel_rfl) (by kernel_rfl) (by kernel_rfl) (by kernel_rfl) args w
theorem callElemT (args : Array Value) (w : World) : (callFunc 80 args).run Tryd.prog w = (((ReflectliteType.method ReflectliteType.elem) args).run Tryd.prog w).andThen fun v w' => .ok (.value v) w' :=
  @run_callFunc_extern Tryd.prog 80 _ (ReflectliteType.method ReflectliteType.elem) Tryd.func80 (by kernel_rfl) (by kernel_rfl) (by kernel_rfl) (by kernel_rfl) args w
theorem callImplements (args : Array Value) (w : World) : (callFunc 81 args).run Tryd.prog w = (((ReflectliteType.relation "Implements" ReflectliteType.implements_) args).run Tryd.prog w).andThen fun v w' => .ok (.value v) w' :=
  @run_callFunc_extern Tryd.prog 81 _ (ReflectliteType.relation "Implements" ReflectliteType.implements_) Tryd.func81 (by kernel_rfl) (by kernel_rfl) (by kernel_rfl) (by kernel_rfl) args w
theorem callTypeOf (args : Array Value) (w : World) : (callFunc 45 args).run Tryd.prog w = ((ReflectliteType.typeOf args).run Tryd.prog w).andThen fun v w' => .ok (.value v) w' :=
  @run_callFunc_extern Tryd.prog 45 _ ReflectliteType.typeOf Tryd.func45 (by kernel_rfl) (by kernel_rfl) (by kernel_rfl) (by kernel_rfl) args w
theorem callAssignable (args : Array Value) (w : World) : (callFunc 78 args).run Tryd.prog w = (((ReflectliteType.relation "AssignableTo" ReflectliteType.assignableTo) args).run Tryd.prog w).andThen fun v w' => .ok (.value v) w' :=
  @run_callFunc_extern Tryd.prog 78 _ (ReflectliteType.relation "AssignableTo" ReflectliteType.assignableTo) Tryd.func78 (by kernel_rfl) (by kernel_rfl) (by kernel_rfl) (by kernel_rfl) args w
theorem callElemV (args : Array Value) (w : World) : (callFunc 46 args).run Tryd.prog w = (((ReflectliteValue.method (ReflectliteValue.valueError "reflectlite.Value.Elem" 0) ReflectliteValue.elem) args).run Tryd.prog w).andThen fun v w' => .ok (.value v) w' :=
  @run_callFunc_extern Tryd.prog 46 _ (ReflectliteValue.method (ReflectliteValue.valueError "reflectlite.Value.Elem" 0) ReflectliteValue.elem) Tryd.func46 (by kernel_rfl) (by kernel_rfl) (by kernel_rfl) (by kernel_rfl) args w
theorem callSet (args : Array Value) (w : World) : (callFunc 47 args).run Tryd.prog w = ((ReflectliteValue.set args).run Tryd.prog w).andThen fun v w' => .ok (.value v) w' :=
  @run_callFunc_extern Tryd.prog 47 _ ReflectliteValue.set Tryd.func47 (by kernel_rfl) (by kernel_rfl) (by kernel_rfl) (by kernel_rfl) args w
/-! ### .. and what they answer -/
theorem goTypeOfF (v : Value) (w : World) : (callFunc 45 #[.iface 76 v]).run Tryd.prog w = .ok (.value (.iface 104 (.agg #[hd 76]))) w := by rw [callTypeOf, typeOfF]; rfl
theorem goTypeOfE (v : Value) (w : World) : (callFunc 45 #[.iface 59 v]).run Tryd.prog w = .ok (.value (.iface 104 (.agg #[hd 59]))) w := by rw [callTypeOf, typeOfE]; rfl
theorem goAssFE (w : World) : (callFunc 78 #[.agg #[hd 76], .iface 104 (.agg #[hd 59])]).run Tryd.prog w = .ok (.value (.bool false)) w := by rw [callAssignable, assFE]; rfl
theorem goAssEE (w : World) : (callFunc 78 #[.agg #[hd 59], .iface 104 (.agg #[hd 59])]).run Tryd.prog w = .ok (.value (.bool true)) w := by rw [callAssignable, assEE]; rfl
theorem goValueOfE (n : Int) (w : World) : (callFunc 37 #[.iface 59 (.int .i64 n)]).run Tryd.prog w = .ok (.value (.agg #[hd 59, .pointer (some ⟨w.heap.size, 0, none⟩), .int .u64 130])) (w.alloc (.cells #[.int .i64 n] 59)) := by rw [callValueOf]; exact congrArg (fun r : Result Value => r.andThen fun v w' => Result.ok (Next.value v) w') (valueOfE n w)
theorem goElemVE (a p : Addr) (W : World) (ha : W.cell? a = some (.pointer (some p))) : (callFunc 46 #[.agg #[hd 63, .pointer (some a), .int .u64 150]]).run Tryd.prog W = .ok (.value (.agg #[hd 59, .pointer (some p), .int .u64 386])) W := by rw [callElemV, elemVE a p W ha]; rfl
theorem goSetE (ta b : Addr) (n : Int) (old : Value) (W : World) (hb : W.cell? b = some (.int .i64 n)) (ht : W.cell? ta = some old) (hf : W.frozen? ta = false) : (callFunc 47 #[.agg #[hd 59, .pointer (some ta), .int .u64 386], .agg #[hd 59, .pointer (some b), .int .u64 130]]).run Tryd.prog W = .ok (.value (.tuple #[])) (W.setCell ta (.int .i64 n)) := by rw [callSet, setE ta b n old W hb ht hf]; rfl
theorem goValueOfPE (t : Addr) (w : World) : (callFunc 37 #[.iface 63 (.pointer (some t))]).run Tryd.prog w = .ok (.value (.agg #[hd 63, .pointer (some ⟨w.heap.size, 0, none⟩), .int .u64 150])) (w.alloc (.cells #[.pointer (some t)] 63)) := by rw [callValueOf]; exact congrArg (fun r : Result Value => r.andThen fun v w' => Result.ok (Next.value v) w') (valueOfPE t w)
theorem goTypePE (a : Addr) (w : World) : (callFunc 38 #[.agg #[hd 63, .pointer (some a), .int .u64 150]]).run Tryd.prog w = .ok (.value (.iface 104 (.agg #[hd 63]))) w := by rw [callType, typePE]; rfl
theorem goKindPE (w : World) : (callFunc 68 #[hd 63]).run Tryd.prog w = .ok (.value (.int .u8 22)) w := by rw [callKind]; exact congrArg (fun r : Result Value => r.andThen fun v w' => Result.ok (Next.value v) w') (kindPE w)
theorem goKindE (w : World) : (callFunc 68 #[hd 59]).run Tryd.prog w = .ok (.value (.int .u8 2)) w := by rw [callKind]; exact congrArg (fun r : Result Value => r.andThen fun v w' => Result.ok (Next.value v) w') (kindE w)
theorem goIsNilPE (a p : Addr) (W : World) (ha : W.cell? a = some (.pointer (some p))) : (callFunc 39 #[.agg #[hd 63, .pointer (some a), .int .u64 150]]).run Tryd.prog W = .ok (.value (.bool false)) W := by rw [callIsNil, isNilPE a p W ha]; rfl
theorem goElemPE (w : World) : (callFunc 80 #[.agg #[hd 63]]).run Tryd.prog w = .ok (.value (.iface 104 (.agg #[hd 59]))) w := by rw [callElemT, elemPE]; rfl
theorem goImplE (w : World) : (callFunc 81 #[.agg #[hd 59], .iface 104 (.agg #[hd 43])]).run Tryd.prog w = .ok (.value (.bool true)) w := by rw [callImplements, implE]; rfl
theorem mAssignable (h : Value) (w : World) : (Go.method 250 104 (.agg #[h]) "AssignableTo").run Tryd.prog w = .ok (78, .agg #[h]) w := by kernel_rfl
theorem mKind (h : Value) (w : World) : (Go.method 250 104 (.agg #[h]) "Kind").run Tryd.prog w = .ok (68, h) w := by kernel_rfl
theorem mElem (h : Value) (w : World) : (Go.method 250 104 (.agg #[h]) "Elem").run Tryd.prog w = .ok (80, .agg #[h]) w := by kernel_rfl
theorem mImplements (h : Value) (w : World) : (Go.method 250 104 (.agg #[h]) "Implements").run Tryd.prog w = .ok (81, .agg #[h]) w := by kernel_rfl
theorem mUnwrap (a : Addr) (w : World) : (Go.method 250 76 (.pointer (some a)) "Unwrap").run Tryd.prog w = .ok (73, .pointer (some a)) w := by kernel_rfl
/-! ### errors -/
/-- The value v is the number n, wrapped so: what was done and the path, the outermost first. -/
inductive Chain (w : World) : Value → Int → List (ByteArray × ByteArray) → Prop where
  | base (n : Int) : Chain w (.iface 59 (.int .i64 n)) n []
  | wrap (b : Nat) (op path : ByteArray) (e : Value) (n : Int) (l : List (ByteArray × ByteArray)) (hb : w.heap[b]? = some (Obj.cells #[.string op, .string path, e] 78 (0, 0))) (h : Chain w e n l) : Chain w (.iface 76 (.pointer (some ⟨b, 0, none⟩))) n ((op, path) :: l)
/-- what was there of blocks of the type Fault is there -/
theorem Chain.keep {w w' : World} {v : Value} {n : Int} {l : List (ByteArray × ByteArray)} (h : Chain w v n l) (hk : ∀ (b : Nat) (cs : Array Value), w.heap[b]? = some (Obj.cells cs 78 (0, 0)) → w'.heap[b]? = some (Obj.cells cs 78 (0, 0))) : Chain w' v n l := by
  induction h with
  | base n => exact .base n
  | wrap b op path e n l hb _ ih => exact .wrap b op path e n l (hk _ _ hb) ih
theorem Chain.iface {w : World} {v : Value} {n : Int} {l : List (ByteArray × ByteArray)} (h : Chain w v n l) : ∃ T x, v = .iface T x := by
  cases h with
  | base => exact ⟨_, _, rfl⟩
  | wrap => exact ⟨_, _, rfl⟩
theorem lt_of_block {w : World} {b : Nat} {o : Obj} (h : w.heap[b]? = some o) : b < w.heap.size := by
  rcases Nat.lt_or_ge b w.heap.size with hlt | hge
  · exact hlt
  · rw [Array.getElem?_eq_none hge] at h; cases h
theorem Chain.on {w w' : World} {v : Value} {n : Int} {l : List (ByteArray × ByteArray)} (h : Chain w v n l) (hb : Below w.heap.size w w') : Chain w' v n l :=
  h.keep fun b cs hc => (hb.block b (lt_of_block hc)).trans hc
end Go.Proofs.YtpijilfkmkdghaaDoor.Err
