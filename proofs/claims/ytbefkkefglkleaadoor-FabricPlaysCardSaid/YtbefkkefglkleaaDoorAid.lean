/- Small laws for the walks: min and max of three numbers. -/
import Derived.WalkKit
import Derived.Lib.MinMax
namespace Go.Proofs.YtbefkkefglkleaaDoor
open Go.RowKit

@[go_sem high] theorem run_max_ints3 {P : Program} (w : World) (ts : Array TypeId) (t : TypeId) (k k' k'' : IntKind) (x y z : Int) :
    (Builtin.max_ ts t #[.int k x, .int k' y, .int k'' z]).run P w = .ok (.int k (max (max x y) z)) w := by
  have e : (if z > (if y > x then y else x) then z else (if y > x then y else x)) = max (max x y) z := by
    rw [Int.max_def, Int.max_def]
    split <;> split <;> split <;> (first | omega | (split <;> omega))
  simp [Builtin.max_, Builtin.max2, e]

@[go_sem high] theorem run_min_ints3 {P : Program} (w : World) (ts : Array TypeId) (t : TypeId) (k k' k'' : IntKind) (x y z : Int) :
    (Builtin.min_ ts t #[.int k x, .int k' y, .int k'' z]).run P w = .ok (.int k (min (min x y) z)) w := by
  have e : (if z < (if y < x then y else x) then z else (if y < x then y else x)) = min (min x y) z := by
    rw [Int.min_def, Int.min_def]
    split <;> split <;> split <;> (first | omega | (split <;> omega))
  simp [Builtin.min_, Builtin.min2, e]

end Go.Proofs.YtbefkkefglkleaaDoor
