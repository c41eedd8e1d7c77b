/- Closed facts on the entries of internal/reflectlite at errors.As asked for a *Fault (turned out of XErr0 by gen_trail0.py). -/
import Derived.Test.YtmccdopagidfnaaDoorErr5
set_option linter.unusedVariables false
namespace Go.Proofs.YtmccdopagidfnaaDoor.ErrF
open Go.RowKit Go.Extern.Stop Go.Stop Go.Extern
open Go.Proofs.YtmccdopagidfnaaDoor.Err (hd rlm rls callValueOf callType callIsNil callKind callElemT callImplements callTypeOf callAssignable callElemV callSet)
theorem valueOfPE (t : Addr) (w : World) : (ReflectliteValue.unpack (.iface 40 (.pointer (some t)))).run Tryd.prog w
    = .ok (.agg #[hd 40, .pointer (some ⟨w.heap.size, 0, none⟩), .int .u64 150]) (w.alloc (.cells #[.pointer (some t)] 40)) := by kernel_rfl
theorem typePE (a : Addr) (w : World) : (ReflectliteValue.methodAny (ReflectliteValue.valueError "reflectlite.Value.Type" 0) (fun t _ _ _ => ReflectliteType.toType t) #[.agg #[hd 40, .pointer (some a), .int .u64 150]]).run Tryd.prog w
    = .ok (.iface 62 (.agg #[hd 40])) w := by kernel_rfl
theorem kindPE (w : World) : ((ReflectliteType.abiMethod fun t => (fun a : Nat => Value.int IntKind.u8 (a : Int)) <$> Rtype.kind t) #[hd 40]).run Tryd.prog w = .ok (.int .u8 22) w := by kernel_rfl
theorem kindE (w : World) : ((ReflectliteType.abiMethod fun t => (fun a : Nat => Value.int IntKind.u8 (a : Int)) <$> Rtype.kind t) #[hd 38]).run Tryd.prog w = .ok (.int .u8 22) w := by kernel_rfl
theorem partsPE (a : Addr) (w : World) : (ReflectliteValue.parts (.agg #[hd 40, .pointer (some a), .int .u64 150])).run Tryd.prog w = .ok (some (40, a, 150)) w := by kernel_rfl
theorem isNilPE (a p : Addr) (W : World) (ha : W.cell? a = some (.pointer (some p))) :
    (ReflectliteValue.method (ReflectliteValue.valueError "reflectlite.Value.IsNil" 0) ReflectliteValue.isNil #[.agg #[hd 40, .pointer (some a), .int .u64 150]]).run Tryd.prog W = .ok (.bool false) W := by
  rw [rlm]
  simp only [Sem.run_bind, partsPE, Result.andThen]
  simp [ReflectliteValue.isNil, loadVar, isAgg, underlying, Tryd.underlying40, ha, Result.andThen]
theorem elemPE (w : World) : (ReflectliteType.method ReflectliteType.elem #[.agg #[hd 40]]).run Tryd.prog w = .ok (.iface 62 (.agg #[hd 38])) w := by kernel_rfl
theorem implE (w : World) : (ReflectliteType.relation "Implements" ReflectliteType.implements_ #[.agg #[hd 38], .iface 62 (.agg #[hd 25])]).run Tryd.prog w = .ok (.bool true) w := by kernel_rfl
theorem typeOfE (v : Value) (w : World) : (ReflectliteType.typeOf #[.iface 38 v]).run Tryd.prog w = .ok (.iface 62 (.agg #[hd 38])) w := by kernel_rfl
theorem typeOfF (v : Value) (w : World) : (ReflectliteType.typeOf #[.iface 35 v]).run Tryd.prog w = .ok (.iface 62 (.agg #[hd 35])) w := by kernel_rfl
theorem assEE (w : World) : (ReflectliteType.relation "AssignableTo" ReflectliteType.assignableTo #[.agg #[hd 38], .iface 62 (.agg #[hd 38])]).run Tryd.prog w = .ok (.bool true) w := by kernel_rfl
theorem assFE (w : World) : (ReflectliteType.relation "AssignableTo" ReflectliteType.assignableTo #[.agg #[hd 35], .iface 62 (.agg #[hd 38])]).run Tryd.prog w = .ok (.bool false) w := by kernel_rfl
theorem valueOfE (n : Addr) (w : World) : (ReflectliteValue.unpack (.iface 38 (.pointer (some n)))).run Tryd.prog w
    = .ok (.agg #[hd 38, .pointer (some ⟨w.heap.size, 0, none⟩), .int .u64 150]) (w.alloc (.cells #[.pointer (some n)] 38)) := by kernel_rfl
theorem elemOfPE (w : World) : (Rtype.elem? 40).run Tryd.prog w = .ok (some 38) w := by kernel_rfl
theorem mkE (p : Addr) (w : World) : (ReflectliteValue.mk 38 p ReflectliteValue.flagAddr).run Tryd.prog w = .ok (.agg #[hd 38, .pointer (some p), .int .u64 406]) w := by kernel_rfl
theorem elemVE (a p : Addr) (W : World) (ha : W.cell? a = some (.pointer (some p))) :
    (ReflectliteValue.method (ReflectliteValue.valueError "reflectlite.Value.Elem" 0) ReflectliteValue.elem #[.agg #[hd 40, .pointer (some a), .int .u64 150]]).run Tryd.prog W
      = .ok (.agg #[hd 38, .pointer (some p), .int .u64 406]) W := by
  rw [rlm]
  simp only [Sem.run_bind, partsPE, Result.andThen]
  simp [ReflectliteValue.elem, loadVar, isAgg, underlying, Tryd.underlying40, ha, Result.andThen, elemOfPE, mkE]
theorem partsEa (a : Addr) (w : World) : (ReflectliteValue.parts (.agg #[hd 38, .pointer (some a), .int .u64 406])).run Tryd.prog w = .ok (some (38, a, 406)) w := by kernel_rfl
theorem partsE (a : Addr) (w : World) : (ReflectliteValue.parts (.agg #[hd 38, .pointer (some a), .int .u64 150])).run Tryd.prog w = .ok (some (38, a, 150)) w := by kernel_rfl
theorem directE (w : World) : (Rtype.directlyAssignable 38 38).run Tryd.prog w = .ok true w := by kernel_rfl
theorem sizeE (w : World) : (sizeOf 38).run Tryd.prog w = .ok 1 w := by kernel_rfl
theorem setE (ta b : Addr) (n : Addr) (old : Value) (W : World) (hb : W.cell? b = some (.pointer (some n))) (ht : W.cell? ta = some old) (hf : W.frozen? ta = false) :
    (ReflectliteValue.set #[.agg #[hd 38, .pointer (some ta), .int .u64 406], .agg #[hd 38, .pointer (some b), .int .u64 150]]).run Tryd.prog W
      = .ok (.tuple #[]) (W.setCell ta (.pointer (some n))) := by
  rw [rls]
  simp only [Sem.run_bind, partsEa, partsE, Result.andThen]
  simp [ReflectliteValue.flagAddr, loadVar, isAgg, underlying, Tryd.underlying38, hb, Result.andThen, directE, storeVar, Value.cells, storeCells, Addr.add]
  rw [run_store Tryd.prog W ta _ _ (by rfl)]
  simp [ht, hf]
theorem goTypeOfF (v : Value) (w : World) : (callFunc 22 #[.iface 35 v]).run Tryd.prog w = .ok (.value (.iface 62 (.agg #[hd 35]))) w := by rw [callTypeOf, typeOfF]; rfl
theorem goTypeOfE (v : Value) (w : World) : (callFunc 22 #[.iface 38 v]).run Tryd.prog w = .ok (.value (.iface 62 (.agg #[hd 38]))) w := by rw [callTypeOf, typeOfE]; rfl
theorem goAssFE (w : World) : (callFunc 49 #[.agg #[hd 35], .iface 62 (.agg #[hd 38])]).run Tryd.prog w = .ok (.value (.bool false)) w := by rw [callAssignable, assFE]; rfl
theorem goAssEE (w : World) : (callFunc 49 #[.agg #[hd 38], .iface 62 (.agg #[hd 38])]).run Tryd.prog w = .ok (.value (.bool true)) w := by rw [callAssignable, assEE]; rfl
theorem goValueOfE (n : Addr) (w : World) : (callFunc 18 #[.iface 38 (.pointer (some n))]).run Tryd.prog w = .ok (.value (.agg #[hd 38, .pointer (some ⟨w.heap.size, 0, none⟩), .int .u64 150])) (w.alloc (.cells #[.pointer (some n)] 38)) := by rw [callValueOf]; exact congrArg (fun r : Result Value => r.andThen fun v w' => Result.ok (Next.value v) w') (valueOfE n w)
theorem goElemVE (a p : Addr) (W : World) (ha : W.cell? a = some (.pointer (some p))) : (callFunc 24 #[.agg #[hd 40, .pointer (some a), .int .u64 150]]).run Tryd.prog W = .ok (.value (.agg #[hd 38, .pointer (some p), .int .u64 406])) W := by rw [callElemV, elemVE a p W ha]; rfl
theorem goSetE (ta b : Addr) (n : Addr) (old : Value) (W : World) (hb : W.cell? b = some (.pointer (some n))) (ht : W.cell? ta = some old) (hf : W.frozen? ta = false) : (callFunc 25 #[.agg #[hd 38, .pointer (some ta), .int .u64 406], .agg #[hd 38, .pointer (some b), .int .u64 150]]).run Tryd.prog W = .ok (.value (.tuple #[])) (W.setCell ta (.pointer (some n))) := by rw [callSet, setE ta b n old W hb ht hf]; rfl
theorem goValueOfPE (t : Addr) (w : World) : (callFunc 18 #[.iface 40 (.pointer (some t))]).run Tryd.prog w = .ok (.value (.agg #[hd 40, .pointer (some ⟨w.heap.size, 0, none⟩), .int .u64 150])) (w.alloc (.cells #[.pointer (some t)] 40)) := by rw [callValueOf]; exact congrArg (fun r : Result Value => r.andThen fun v w' => Result.ok (Next.value v) w') (valueOfPE t w)
theorem goTypePE (a : Addr) (w : World) : (callFunc 19 #[.agg #[hd 40, .pointer (some a), .int .u64 150]]).run Tryd.prog w = .ok (.value (.iface 62 (.agg #[hd 40]))) w := by rw [callType, typePE]; rfl
theorem goKindPE (w : World) : (callFunc 40 #[hd 40]).run Tryd.prog w = .ok (.value (.int .u8 22)) w := by rw [callKind]; exact congrArg (fun r : Result Value => r.andThen fun v w' => Result.ok (Next.value v) w') (kindPE w)
theorem goKindE (w : World) : (callFunc 40 #[hd 38]).run Tryd.prog w = .ok (.value (.int .u8 22)) w := by rw [callKind]; exact congrArg (fun r : Result Value => r.andThen fun v w' => Result.ok (Next.value v) w') (kindE w)
theorem goIsNilPE (a p : Addr) (W : World) (ha : W.cell? a = some (.pointer (some p))) : (callFunc 20 #[.agg #[hd 40, .pointer (some a), .int .u64 150]]).run Tryd.prog W = .ok (.value (.bool false)) W := by rw [callIsNil, isNilPE a p W ha]; rfl
theorem goElemPE (w : World) : (callFunc 51 #[.agg #[hd 40]]).run Tryd.prog w = .ok (.value (.iface 62 (.agg #[hd 38]))) w := by rw [callElemT, elemPE]; rfl
theorem goImplE (w : World) : (callFunc 52 #[.agg #[hd 38], .iface 62 (.agg #[hd 25])]).run Tryd.prog w = .ok (.value (.bool true)) w := by rw [callImplements, implE]; rfl
end Go.Proofs.YtmccdopagidfnaaDoor.ErrF
