/- '!=' of an error with itself: a wrapping of a sentinel. -/
import Derived.Test.YthmgccakhhggjaaDoorErr7
import Derived.ChangeKeysEq
namespace Go.Proofs.YthmgccakhhggjaaDoor
open Go.RowKit Go.Extern.Stop Go.Stop Go.Extern

theorem nFaultComp : (Tryd.prog.info? 61).map (·.comparable) = some true := by kernel_rfl
theorem nFaultFields : (Tryd.prog.fieldsOf 61).toList.map (fun f => (f.name != "_", f.type, f.offset)) = [(true, 9, 0), (true, 3, 1), (true, 31, 2)] := by kernel_rfl
theorem nFaultU : Tryd.prog.underlying 61 = some (.struct (Tryd.prog.fieldsOf 61)) := by kernel_rfl
theorem nFaultStood : Tryd.prog.stoodInHeld 61 = false := by kernel_rfl
theorem partCell (t : TypeId) (cs : Array Value) (off : Nat) (v : Value) (w : World) (ht : (isAgg t).run Tryd.prog w = .ok false w) (h : cs[off]? = some v) : (part t cs off).run Tryd.prog w = .ok v w := by
  simp [part, ht, h]
theorem nAgg9 (w : World) : (isAgg 9).run Tryd.prog w = .ok false w := by kernel_rfl
theorem nAgg3 (w : World) : (isAgg 3).run Tryd.prog w = .ok false w := by kernel_rfl
theorem nAggE (w : World) : (isAgg 31).run Tryd.prog w = .ok false w := by kernel_rfl

theorem neqWrap (A : Nat → Addr) (op : ByteArray) (i : Int) (k : Nat) (w : World) :
    (binOp .neq 31 ((ErrT.wrap op i (.sent k)).val A) ((ErrT.wrap op i (.sent k)).val A)).run Tryd.prog w = .ok (.bool false) w := by
  obtain ⟨ti, hti, hcmp⟩ := Option.map_eq_some_iff.1 nFaultComp
  obtain ⟨si, hsi, hscmp⟩ := Option.map_eq_some_iff.1 nIsComp
  obtain ⟨z, hz, hzs⟩ := Option.map_eq_some_iff.1 nIsSize
  have hin : ∀ d : Nat, (Op.equalIn (d + 3) 61 (.agg #[.string op, .int .i64 i, (ErrT.sent k).val A]) (.agg #[.string op, .int .i64 i, (ErrT.sent k).val A])).run Tryd.prog w = .ok true w := fun d => by
    rw [run_equalIn_agg w (d + 2) _ _ _ nFaultU nFaultStood]
    have hf := nFaultFields
    generalize (Tryd.prog.fieldsOf 61).toList = fs at hf ⊢
    rcases fs with _ | ⟨f0, _ | ⟨f1, _ | ⟨f2, _ | ⟨f3, r⟩⟩⟩⟩
    · simp at hf
    · simp at hf
    · simp at hf
    · simp only [List.map_cons, List.map_nil, List.cons.injEq, Prod.mk.injEq, and_true, bne_iff_ne] at hf
      obtain ⟨⟨a0, a1, a2⟩, ⟨b0, b1, b2⟩, ⟨c0, c1, c2⟩⟩ := hf
      simp only [Op.eqFields, if_pos a0, if_pos b0, if_pos c0, a1, a2, b1, b2, c1, c2, Sem.run_bind, Sem.run_ite, Sem.run_pure]
      have p0 := partCell 9 #[.string op, .int .i64 i, (ErrT.sent k).val A] 0 (.string op) w (nAgg9 w) rfl
      have p1 := partCell 3 #[.string op, .int .i64 i, (ErrT.sent k).val A] 1 (.int .i64 i) w (nAgg3 w) rfl
      have p2 := partCell 31 #[.string op, .int .i64 i, (ErrT.sent k).val A] 2 ((ErrT.sent k).val A) w (nAggE w) rfl
      have q0 := run_equalIn_string (P := Tryd.prog) w (d + 1) _ op op Tryd.underlying9
      have q1 := run_equalIn_int (P := Tryd.prog) w (d + 1) _ .i64 .i64 i i Tryd.underlying3
      have q2 : (Op.equalIn (d + 2) 31 ((ErrT.sent k).val A) ((ErrT.sent k).val A)).run Tryd.prog w = .ok true w := run_equalIn_iface_ptr_same w d (A k) Tryd.underlying31 Tryd.underlying97 hsi hscmp hz
      simp only [p0, p1, p2, q0, q1, q2, Result.andThen_ok, beq_self_eq_true, Bool.not_true, Bool.false_eq_true, if_false]
    · simp at hf
  have hiface : ∀ d : Nat, (Op.equalIn (d + 4) 31 ((ErrT.wrap op i (.sent k)).val A) ((ErrT.wrap op i (.sent k)).val A)).run Tryd.prog w = .ok true w := fun d => by
    rw [show (ErrT.wrap op i (.sent k)).val A = .iface 61 (.agg #[.string op, .int .i64 i, (ErrT.sent k).val A]) from rfl]
    rw [Op.equalIn]
    simp [run_underlying Tryd.underlying31, typeInfo, hti, hcmp, hin d]
  rw [show (ErrT.wrap op i (.sent k)).val A = .iface 61 (.agg #[.string op, .int .i64 i, (ErrT.sent k).val A]) from rfl] at hiface ⊢
  simp only [binOp]
  simp [Op.equal, Op.maxDepth, hiface 9996]
theorem eqGuardIface (op : BinOp) (x y : Operand) (a b : TypeId) (u v : Value) (w : World) : (eqGuard op 31 x y (.iface a u) (.iface b v)).run Tryd.prog w = .ok () w := by
  cases op <;> simp [eqGuard]

end Go.Proofs.YthmgccakhhggjaaDoor
