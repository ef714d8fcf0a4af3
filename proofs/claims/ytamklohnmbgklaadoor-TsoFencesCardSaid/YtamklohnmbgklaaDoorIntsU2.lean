/- A slice of uint32 that comes as an argument, with its room. -/
import Derived.Test.YtamklohnmbgklaaDoorIntsU
namespace Go.Proofs.YtamklohnmbgklaaDoor
open Go.ChangeShapes Go.WideShapes Go.Deep Go.RowKit

structure U32C (w : World) (v : Value) (n : Nat) (g : Nat → Int) : Prop where
  row : IntsAt .u32 w v n g
  cap : ∀ a k c, v = .slice a k c → k ≤ c
set_option maxRecDepth 100000 in
theorem u32c_of_trod {H : Type} {enc : TypeId × Value → H} {W : World} {base : Nat} {v : Value} {d : DataW H} {p : List MemPlace} (hv : Value.okWide Tryd.prog W .any base 27 v) (hj : DataW.Trod enc Tryd.prog W 0 (fun _ => true) true 27 v d p)
    (hlt : ∀ x ∈ p, x.block < W.heap.size) : ∃ n g, U32C W v n g := by
  obtain ⟨n, g, h⟩ := u32s_of_trod hv hj hlt
  refine ⟨n, g, h, ?_⟩
  obtain ⟨a0, len, cap, rfl⟩ := okWide_slice Tryd.underlying27 hv
  obtain ⟨fuel, hf⟩ := hj
  intro a k c he
  rcases open_ints Tryd.underlying27 Tryd.underlying22 nCellsU hf with ⟨hcs, _⟩ | ⟨a1, len', cap', zs, hcs, _, hl, _⟩
  · simp only [Value.cells, List.cons.injEq, and_true] at hcs
    rw [he] at hcs
    simp only [Value.slice.injEq] at hcs
    omega
  · simp only [Value.cells, List.cons.injEq, and_true] at hcs
    rw [he] at hcs
    simp only [Value.slice.injEq] at hcs
    omega

end Go.Proofs.YtamklohnmbgklaaDoor
