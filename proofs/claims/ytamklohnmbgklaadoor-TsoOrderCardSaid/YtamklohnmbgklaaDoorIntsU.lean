/- A slice of uint32 that comes as an argument. -/
import Derived.Test.YtamklohnmbgklaaDoorInts
namespace Go.Proofs.YtamklohnmbgklaaDoor
open Go.ChangeShapes Go.WideShapes Go.Deep Go.RowKit

theorem nCellsU : Tryd.prog.cellsOf 22 = 1 := by kernel_rfl
set_option maxRecDepth 100000 in
theorem u32s_of_trod {H : Type} {enc : TypeId × Value → H} {W : World} {base : Nat} {v : Value} {d : DataW H} {p : List MemPlace} (hv : Value.okWide Tryd.prog W .any base 27 v) (hj : DataW.Trod enc Tryd.prog W 0 (fun _ => true) true 27 v d p)
    (_hlt : ∀ x ∈ p, x.block < W.heap.size) : ∃ n g, IntsAt .u32 W v n g := ints_of Tryd.underlying27 Tryd.underlying22 nCellsU hv hj

end Go.Proofs.YtamklohnmbgklaaDoor
