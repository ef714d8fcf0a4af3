/- A pure call in a walk in an order of one's own (LexG). -/
import Derived.Test.YtbefkkefglkleaaDoorLexG
namespace Go.Proofs.YtbefkkefglkleaaDoor
open Go

section
variable {P : Program} {ops : Array Oper} {S : World → Prop} {Q : Exit → Act → World → Prop}
theorem lexG_pure {cs : Cls} {fr : List (Nat × Nat)} {n k : Nat} {L : List Nat} {o : Oper} {a : Act} {w : World} {f : FuncId} {args : Array Value} {v : Value} {xs : Array Operand} {tys : Array TypeId} {fn : Func} {c : Code}
    (hk : ops[k]? = some o) (hl : (pureB cs.fs o && !heavyB cs.hs o) = true) (hw : Region.wanted o (yielded ops a.tmps) = true) (ho : o.op = .call ⟨.value (.func f), xs, tys⟩) (hf : P.funcs[f]? = some fn) (hb : fn.body = some c) (hn : (fn.name == "runtime.NumGoroutine") = false)
    (hc : ∀ x : Wd S, Calls P f args x.w fun e w' => e = .returned v ∧ x.w = w') (ha : xs.map a.eval = args) (h : lexG cs fr P ops S Q n L (a.put o.dst v) w) : lexG cs fr P ops S Q (n + 1) (k :: L) a w := by
  refine ⟨o, hk, ?_⟩
  rw [if_pos (by simp only [Bool.and_eq_true] at hl; simp only [liteB, hl.1, hl.2, Bool.or_true, Bool.true_and])]
  exact ⟨v, .inl ⟨hw, fun w' hS => .inr ⟨f, args, by rw [run_callv ho hf hb hn, ha], (hc ⟨w', hS⟩).mono fun e w'' ⟨he, hw''⟩ => ⟨he, hw''.symm⟩⟩⟩, h⟩
end

end Go.Proofs.YtbefkkefglkleaaDoor
