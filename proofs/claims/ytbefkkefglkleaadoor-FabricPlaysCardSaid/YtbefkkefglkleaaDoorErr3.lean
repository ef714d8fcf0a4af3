/- errors.As at a target of type *api.Fault, at the errors of this program. -/
import Derived.Test.YtbefkkefglkleaaDoorErr2
import Derived.Deep.MidRow
namespace Go.Proofs.YtbefkkefglkleaaDoor
open Go.RowKit Go.Extern.Stop Go.Stop Go.Extern

def xValueOf : Array Value → Sem Value := fun args => ReflectliteValue.unpack (args.getD 0 (.tuple #[]))
def xType : Array Value → Sem Value := ReflectliteValue.methodAny (ReflectliteValue.valueError "reflectlite.Value.Type" 0) fun t _ _ _ => ReflectliteType.toType t
def xIsNil : Array Value → Sem Value := ReflectliteValue.method (ReflectliteValue.valueError "reflectlite.Value.IsNil" 0) ReflectliteValue.isNil
def xElemV : Array Value → Sem Value := ReflectliteValue.method (ReflectliteValue.valueError "reflectlite.Value.Elem" 0) ReflectliteValue.elem
def xSet : Array Value → Sem Value := ReflectliteValue.set
def xKind : Array Value → Sem Value := ReflectliteType.abiMethod fun t => do pure (.int .u8 (← Rtype.kind t))
def xElemT : Array Value → Sem Value := ReflectliteType.method ReflectliteType.elem
def xImplements : Array Value → Sem Value := ReflectliteType.relation "Implements" ReflectliteType.implements_
def xAssignable : Array Value → Sem Value := ReflectliteType.relation "AssignableTo" ReflectliteType.assignableTo

theorem nCallValueOf (args : Array Value) (w : World) : (callFunc 43 args).run Tryd.prog w = ((xValueOf args).run Tryd.prog w).andThen fun v w' => .ok (.value v) w' := run_callFunc_extern (e := xValueOf) Tryd.func43 (by kernel_rfl) (by kernel_rfl) (by kernel_rfl) (by kernel_rfl) args w
theorem nCallType (args : Array Value) (w : World) : (callFunc 44 args).run Tryd.prog w = ((xType args).run Tryd.prog w).andThen fun v w' => .ok (.value v) w' := run_callFunc_extern (e := xType) Tryd.func44 (by kernel_rfl) (by kernel_rfl) (by kernel_rfl) (by kernel_rfl) args w
theorem nCallIsNil (args : Array Value) (w : World) : (callFunc 45 args).run Tryd.prog w = ((xIsNil args).run Tryd.prog w).andThen fun v w' => .ok (.value v) w' := run_callFunc_extern (e := xIsNil) Tryd.func45 (by kernel_rfl) (by kernel_rfl) (by kernel_rfl) (by kernel_rfl) args w
theorem nCallElemV (args : Array Value) (w : World) : (callFunc 47 args).run Tryd.prog w = ((xElemV args).run Tryd.prog w).andThen fun v w' => .ok (.value v) w' := run_callFunc_extern (e := xElemV) Tryd.func47 (by kernel_rfl) (by kernel_rfl) (by kernel_rfl) (by kernel_rfl) args w
theorem nCallSet (args : Array Value) (w : World) : (callFunc 48 args).run Tryd.prog w = ((xSet args).run Tryd.prog w).andThen fun v w' => .ok (.value v) w' := run_callFunc_extern (e := xSet) Tryd.func48 (by kernel_rfl) (by kernel_rfl) (by kernel_rfl) (by kernel_rfl) args w
theorem nCallKind (args : Array Value) (w : World) : (callFunc 63 args).run Tryd.prog w = ((xKind args).run Tryd.prog w).andThen fun v w' => .ok (.value v) w' := run_callFunc_extern (e := xKind) Tryd.func63 (by kernel_rfl) (by kernel_rfl) (by kernel_rfl) (by kernel_rfl) args w
theorem nCallElemT (args : Array Value) (w : World) : (callFunc 74 args).run Tryd.prog w = ((xElemT args).run Tryd.prog w).andThen fun v w' => .ok (.value v) w' := run_callFunc_extern (e := xElemT) Tryd.func74 (by kernel_rfl) (by kernel_rfl) (by kernel_rfl) (by kernel_rfl) args w
theorem nCallImplements (args : Array Value) (w : World) : (callFunc 75 args).run Tryd.prog w = ((xImplements args).run Tryd.prog w).andThen fun v w' => .ok (.value v) w' := run_callFunc_extern (e := xImplements) Tryd.func75 (by kernel_rfl) (by kernel_rfl) (by kernel_rfl) (by kernel_rfl) args w
theorem nCallAssignable (args : Array Value) (w : World) : (callFunc 72 args).run Tryd.prog w = ((xAssignable args).run Tryd.prog w).andThen fun v w' => .ok (.value v) w' := run_callFunc_extern (e := xAssignable) Tryd.func72 (by kernel_rfl) (by kernel_rfl) (by kernel_rfl) (by kernel_rfl) args w

/-- a type's handle; the Value of a pointer to a Fault -/
abbrev hd (t : Nat) : Value := .pointer (some ⟨11, t, none⟩)
abbrev rt (t : Nat) : Value := .iface 101 (.agg #[hd t])
abbrev pv (b : Nat) : Value := .agg #[hd 79, .pointer (some ⟨b, 0, none⟩), .int .u64 150]

theorem nValueOfP (t : Addr) (w : World) : (xValueOf #[.iface 79 (.pointer (some t))]).run Tryd.prog w = .ok (pv w.heap.size) (w.alloc (.cells #[.pointer (some t)] 79)) := by kernel_rfl
theorem nTypeP (b : Nat) (w : World) : (xType #[pv b]).run Tryd.prog w = .ok (rt 79) w := by kernel_rfl
theorem nMethodKind (h : Value) (w : World) : (Go.method 248 101 (.agg #[h]) "Kind").run Tryd.prog w = .ok (63, h) w := by kernel_rfl
theorem nKindP (w : World) : (xKind #[hd 79]).run Tryd.prog w = .ok (.int .u8 22) w := by kernel_rfl
theorem nKindF (w : World) : (xKind #[hd 75]).run Tryd.prog w = .ok (.int .u8 25) w := by kernel_rfl
theorem nMethodElem (h : Value) (w : World) : (Go.method 248 101 (.agg #[h]) "Elem").run Tryd.prog w = .ok (74, .agg #[h]) w := by kernel_rfl
theorem nMethodImplements (h : Value) (w : World) : (Go.method 248 101 (.agg #[h]) "Implements").run Tryd.prog w = .ok (75, .agg #[h]) w := by kernel_rfl
theorem nMethodAssignable (h : Value) (w : World) : (Go.method 248 101 (.agg #[h]) "AssignableTo").run Tryd.prog w = .ok (72, .agg #[h]) w := by kernel_rfl
theorem nElemT (w : World) : (xElemT #[.agg #[hd 79]]).run Tryd.prog w = .ok (rt 75) w := by kernel_rfl
theorem nImplements (w : World) : (xImplements #[.agg #[hd 75], rt 24]).run Tryd.prog w = .ok (.bool true) w := by kernel_rfl
theorem nTypeOfF (v : Value) (w : World) : (xTypeOf #[.iface 75 v]).run Tryd.prog w = .ok (rt 75) w := by kernel_rfl
theorem nAssignF (w : World) : (xAssignable #[.agg #[hd 75], rt 75]).run Tryd.prog w = .ok (.bool true) w := by kernel_rfl
theorem nAssignE (w : World) : (xAssignable #[.agg #[hd 116], rt 75]).run Tryd.prog w = .ok (.bool false) w := by kernel_rfl
theorem nValueOfF (op : ByteArray) (i : Int) (t : TypeId) (u : Value) (w : World) : (xValueOf #[.iface 75 (.agg #[.string op, .int .i64 i, .iface t u])]).run Tryd.prog w
    = .ok (.agg #[hd 75, .pointer (some ⟨w.heap.size, 0, none⟩), .int .u64 153]) (w.alloc (.cells #[.string op, .int .i64 i, .iface t u] 75)) := by kernel_rfl
theorem nNoAsE (v : Value) (xT : TypeId) (w : World) : (Instr.typeAssert (.iface 116 v) xT 113 true).run Tryd.prog w = .ok (.tuple #[.nilIface, .bool false]) w := run_typeAssert_lacksB Tryd.underlying113 (by kernel_rfl) (by kernel_rfl) v xT w

theorem nrlm (z : Sem Value) (f : TypeId → Addr → Nat → Nat → Sem Value) (v : Value) :
    ReflectliteValue.method z f #[v] = (do match ← ReflectliteValue.parts v with | none => z | some (t, a, fl) => f t a fl (fl % 32)) := rfl
theorem nPartsP (b : Nat) (w : World) : (ReflectliteValue.parts (pv b)).run Tryd.prog w = .ok (some (79, ⟨b, 0, none⟩, 150)) w := by kernel_rfl
theorem nIsNil (b : Nat) (p : Addr) (W : World) (ha : W.cell? ⟨b, 0, none⟩ = some (.pointer (some p))) : (xIsNil #[pv b]).run Tryd.prog W = .ok (.bool false) W := by
  unfold xIsNil
  rw [nrlm]
  simp only [Sem.run_bind, nPartsP, Result.andThen]
  simp [ReflectliteValue.isNil, loadVar, isAgg, underlying, Tryd.underlying79, ha, Result.andThen]
theorem nElemOf (w : World) : (Rtype.elem? 79).run Tryd.prog w = .ok (some 75) w := by kernel_rfl
theorem nMkF (p : Addr) (w : World) : (ReflectliteValue.mk 75 p ReflectliteValue.flagAddr).run Tryd.prog w = .ok (.agg #[hd 75, .pointer (some p), .int .u64 409]) w := by kernel_rfl
theorem nElemV (b : Nat) (p : Addr) (W : World) (ha : W.cell? ⟨b, 0, none⟩ = some (.pointer (some p))) : (xElemV #[pv b]).run Tryd.prog W = .ok (.agg #[hd 75, .pointer (some p), .int .u64 409]) W := by
  unfold xElemV
  rw [nrlm]
  simp only [Sem.run_bind, nPartsP, Result.andThen]
  simp [ReflectliteValue.elem, loadVar, isAgg, underlying, Tryd.underlying79, ha, Result.andThen, nElemOf, nMkF]

theorem nrls (v x : Value) : ReflectliteValue.set #[v, x] = (do
    let (some (dst, a, fl), some (src, b, _)) := (← ReflectliteValue.parts v, ← ReflectliteValue.parts x)
      | unsupported (.noEntry "extern/(internal/reflectlite.Value).Set.zeroValue")
    if fl / ReflectliteValue.flagAddr % 2 == 0 then unsupported (.noEntry "extern/(internal/reflectlite.Value).Set.unaddressable")
    let val ← loadVar src b
    if ← Rtype.directlyAssignable dst src then storeVar dst a val
    else if ← Rtype.implements dst src then
      if (← Rtype.kind src) == 20 then
        match val with
        | .nilIface => unsupported (.noEntry "extern/reflectlite: a nil value of one interface type handed on as a value of another")
        | _ => storeVar dst a val
      else storeVar dst a (.iface src val)
    else panicString ("reflectlite.Set: value of type " ++ (← Rtype.spelt src) ++ " is not assignable to type " ++ (← Rtype.spelt dst))
    pure (.tuple #[])) := rfl
theorem nPartsFa (b : Nat) (w : World) : (ReflectliteValue.parts (.agg #[hd 75, .pointer (some ⟨b, 0, none⟩), .int .u64 409])).run Tryd.prog w = .ok (some (75, ⟨b, 0, none⟩, 409)) w := by kernel_rfl
theorem nPartsF (b : Nat) (w : World) : (ReflectliteValue.parts (.agg #[hd 75, .pointer (some ⟨b, 0, none⟩), .int .u64 153])).run Tryd.prog w = .ok (some (75, ⟨b, 0, none⟩, 153)) w := by kernel_rfl
theorem nDirectF (w : World) : (Rtype.directlyAssignable 75 75).run Tryd.prog w = .ok true w := by kernel_rfl
theorem nSizeF : (Tryd.prog.info? 75).map (·.size) = some 3 := by kernel_rfl
/-- (Value).Set: the Fault variable at block 'a' gets what stands at block 'b'. -/
theorem nSet (a b : Nat) (op : ByteArray) (i : Int) (v : Value) (W : World) (hv : v.oneCell' = true)
    (hb : W.rangeAt b 0 [.string op, .int .i64 i, v]) (ha : W.there a 0 3) :
    (xSet #[.agg #[hd 75, .pointer (some ⟨a, 0, none⟩), .int .u64 409], .agg #[hd 75, .pointer (some ⟨b, 0, none⟩), .int .u64 153]]).run Tryd.prog W
      = .ok (.tuple #[]) (W.setCells a 0 [.string op, .int .i64 i, v]) := by
  have hl := run_loadVar_mid (P := Tryd.prog) W b 0 75 [.string op, .int .i64 i, v] _ hb Tryd.underlying75 rfl nSizeF
  have hst := run_storeVar_mid (P := Tryd.prog) W a 0 75 #[.string op, .int .i64 i, v] ha nSizeF (by simp [Value.oneCell'] at hv ⊢; exact hv)
  unfold xSet
  rw [nrls]
  simp only [Sem.run_bind, nPartsFa, nPartsF, Result.andThen]
  simp [ReflectliteValue.flagAddr, hl, hst, Result.andThen, nDirectF]

end Go.Proofs.YtbefkkefglkleaaDoor
