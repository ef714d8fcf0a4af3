/- Small laws on a block whose cells are written one behind the other. -/
import Derived.Test.YtbefkkefglkleaaDoorErr4
import Derived.Deep.MidRow
namespace Go.Proofs.YtbefkkefglkleaaDoor
open Go.RowKit

theorem there_of_rowN {W : World} {t n : Nat} {old : Array Value} {ty : TypeId} (h : W.heap[t]? = some (.cells old ty (0, 0))) (hz : old.size = n) : W.there t 0 n := by
  intro j hj
  constructor
  · simp [World.cell?, h]
    omega
  · simp [World.frozen?, h]

/-- The cells of a list, put into an array from a place on. -/
def putAt (cs : Array Value) : Nat → List Value → Array Value
  | _, [] => cs
  | o, v :: r => putAt (cs.setIfInBounds o v) (o + 1) r

theorem heap_setCells_at {t : Nat} {ty : TypeId} {fr : Nat × Nat} : ∀ (l : List Value) (o : Nat) (W : World) (cs : Array Value), W.heap[t]? = some (.cells cs ty fr) → (W.setCells t o l).heap[t]? = some (.cells (putAt cs o l) ty fr)
  | [], _, _, _, h => h
  | v :: r, o, W, cs, h => heap_setCells_at r (o + 1) (W.setCell ⟨t, o, none⟩ v) (cs.setIfInBounds o v) (heap_setCell_at h v)

theorem below_setCells {B t : Nat} (hB : B ≤ t) : ∀ (l : List Value) (o : Nat) (a W : World), Below B a W → Below B a (W.setCells t o l)
  | [], _, _, _, h => h
  | v :: r, o, a, W, h => below_setCells hB r (o + 1) a (W.setCell ⟨t, o, none⟩ v) (h.setCell hB v)

theorem cell_of {X : World} {b : Nat} {cs : Array Value} {ty : TypeId} {fr : Nat × Nat} (h : X.heap[b]? = some (.cells cs ty fr)) (k : Nat) : X.cell? ⟨b, k, none⟩ = cs[k]? := by simp [World.cell?, h]

end Go.Proofs.YtbefkkefglkleaaDoor
