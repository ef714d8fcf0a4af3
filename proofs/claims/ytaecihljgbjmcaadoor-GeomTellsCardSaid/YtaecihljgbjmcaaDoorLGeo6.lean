/- GeomTells: true; no condition but what a start gives. -/
import Derived.Test.YtaecihljgbjmcaaDoorLGeo4
import Derived.Test.YtaecihljgbjmcaaDoorLGeo5
import Derived.Test.YtaecihljgbjmcaaDoorCfg
namespace Go.Proofs.YtaecihljgbjmcaaDoor
open Go.RowKit

theorem geomTells {A : Nat → Addr} (g : Nat → Int) (z1 z2 z3 z4 : Int) (w : World) (hs : SentAt w A) (hg : ∀ j, j < 9 → -9223372036854775808 ≤ g j ∧ g j ≤ 9223372036854775807) (_b1 : -9223372036854775808 ≤ z1 ∧ z1 ≤ 9223372036854775807)
    (_b2 : -9223372036854775808 ≤ z2 ∧ z2 ≤ 9223372036854775807) (_b3 : -9223372036854775808 ≤ z3 ∧ z3 ≤ 9223372036854775807) (_b4 : -9223372036854775808 ≤ z4 ∧ z4 ≤ 9223372036854775807) :
    Calls Tryd.prog 11 #[cfgV g, .int .i64 z1, .int .i64 z2, .int .i64 z3, .int .i64 z4] w (TruePost w) := by
  cases h : badAt g with
  | none => exact geomTells_none g z1 z2 z3 z4 w h hs hg
  | some i => exact geomTells_some g z1 z2 z3 z4 w i h hs hg

end Go.Proofs.YtaecihljgbjmcaaDoor
