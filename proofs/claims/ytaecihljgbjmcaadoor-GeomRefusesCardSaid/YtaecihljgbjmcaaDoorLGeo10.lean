/- GeomRefuses: true; no condition but what a start gives. -/
import Derived.Test.YtaecihljgbjmcaaDoorLGeo9
namespace Go.Proofs.YtaecihljgbjmcaaDoor
open Go.RowKit

theorem geomRefuses {A : Nat → Addr} (g : Nat → Int) (z1 : Int) (z2 : Bool) (w : World) (hs : SentAt w A) (hg : ∀ j, j < 9 → -9223372036854775808 ≤ g j ∧ g j ≤ 9223372036854775807) (b1 : -9223372036854775808 ≤ z1 ∧ z1 ≤ 9223372036854775807) :
    Calls Tryd.prog 13 #[cfgV g, .int .i64 z1, .bool z2] w (TruePost w) := by
  cases z2
  · exact geomRefuses_false g z1 w hs hg b1
  · exact geomRefuses_true g z1 w hs hg b1

end Go.Proofs.YtaecihljgbjmcaaDoor
