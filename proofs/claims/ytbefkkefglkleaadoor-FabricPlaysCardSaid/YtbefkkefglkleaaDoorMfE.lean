/- '==' of two messages. -/
import Derived.Test.YtbefkkefglkleaaDoorMfP
import Derived.DeepKeys
namespace Go.Proofs.YtbefkkefglkleaaDoor
open Go.RowKit Go.Extern.Stop Go.Stop Go.Extern

def eqM (m n : MsgV) : Bool := m.kind == n.kind && m.core == n.core && m.line == n.line && m.state == n.state && m.mode == n.mode && m.epoch == n.epoch && m.word == n.word && m.val == n.val && m.d0 == n.d0 && m.d1 == n.d1 && m.d2 == n.d2 && m.d3 == n.d3 && m.has == n.has
theorem eqM_iff (m n : MsgV) : eqM m n = true ↔ m = n := by
  obtain ⟨a1, a2, a3, a4, a5, a6, a7, a8, a9, a10, a11, a12, a13⟩ := m
  obtain ⟨b1, b2, b3, b4, b5, b6, b7, b8, b9, b10, b11, b12, b13⟩ := n
  simp [eqM, and_assoc]
theorem run_eqLine (a1 a2 a3 a4 b1 b2 b3 b4 : Int) (d : Nat) (w : World) : (Op.equalIn (d + 2) 30 (.agg #[.int .u32 a1, .int .u32 a2, .int .u32 a3, .int .u32 a4]) (.agg #[.int .u32 b1, .int .u32 b2, .int .u32 b3, .int .u32 b4])).run Tryd.prog w = .ok (a1 == b1 && a2 == b2 && a3 == b3 && a4 == b4) w := by
  have u3 := Tryd.underlying28
  have ag := Tryd.isAgg28
  have z3 := Tryd.sizeOf28
  rw [Op.equalIn]
  simp only [Sem.run_bind, run_underlying Tryd.underlying30, Result.andThen_ok]
  simp only [Std.Legacy.Range.forIn_eq_forIn_range', Std.Legacy.Range.size, Nat.sub_zero, Nat.add_sub_cancel, Nat.div_one, List.range'_succ, List.range'_zero, List.forIn_cons, List.forIn_nil]
  go_simp
  clear u3 ag z3
  repeat' split
  all_goals simp_all
set_option maxRecDepth 100000 in
theorem run_eqMs (a1 a2 a3 a4 a5 a6 a7 a8 a9 a10 a11 a12 b1 b2 b3 b4 b5 b6 b7 b8 b9 b10 b11 b12 : Int) (a13 b13 : Bool) (w : World) :
    (Op.equalIn 10000 32 (.agg #[.int .i64 a1, .int .i64 a2, .int .i64 a3, .int .i64 a4, .int .i64 a5, .int .i64 a6, .int .i64 a7, .int .u32 a8, .int .u32 a9, .int .u32 a10, .int .u32 a11, .int .u32 a12, .bool a13]) (.agg #[.int .i64 b1, .int .i64 b2, .int .i64 b3, .int .i64 b4, .int .i64 b5, .int .i64 b6, .int .i64 b7, .int .u32 b8, .int .u32 b9, .int .u32 b10, .int .u32 b11, .int .u32 b12, .bool b13])).run Tryd.prog w = .ok (eqM ⟨a1, a2, a3, a4, a5, a6, a7, a8, a9, a10, a11, a12, a13⟩ ⟨b1, b2, b3, b4, b5, b6, b7, b8, b9, b10, b11, b12, b13⟩) w := by
  have u3 := Tryd.underlying28
  have z3 := Tryd.sizeOf28
  have ui := Tryd.underlying3
  have zi := Tryd.sizeOf3
  have ub := Tryd.underlying4
  have zb := Tryd.sizeOf4
  have zl := Tryd.sizeOf30
  have hS : Tryd.prog.underlying 32 = some (.struct (Tryd.prog.fieldsOf 32)) := by kernel_rfl
  have hp : Tryd.prog.stoodInHeld 32 = false := by kernel_rfl
  rw [show (10000 : Nat) = 9999 + 1 from rfl, run_equalIn_agg w 9999 32 _ _ hS hp]
  simp only [Program.fieldsOf, Tryd.underlying32]
  have hl := fun w => run_eqLine a9 a10 a11 a12 b9 b10 b11 b12 9997 w
  go_simp
  clear u3 z3 ui zi ub zb zl hl hp hS
  repeat' split
  all_goals simp_all [eqM]

end Go.Proofs.YtbefkkefglkleaaDoor
