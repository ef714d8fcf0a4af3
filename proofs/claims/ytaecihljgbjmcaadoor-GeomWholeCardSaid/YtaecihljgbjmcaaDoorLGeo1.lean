/- GeomRuns: true; no condition but what a start gives. -/
import Derived.Test.YtaecihljgbjmcaaDoorGeo3
namespace Go.Proofs.YtaecihljgbjmcaaDoor
open Go.RowKit

def gRuns : Nat → Int
  | 2 => 3
  | 8 => 0
  | _ => 1

set_option maxHeartbeats 1000000 in
theorem geomRuns (A : Nat → Addr) (w : World) (hs : SentAt w A) : Calls Tryd.prog 9 #[] w (TruePost w) := by
  go_enter Tryd.func9, Tryd.ntmps9
  go_wp2_with fail
  refine (gcheck A gRuns _ hs).mono ?_
  rintro e w1 ⟨rfl, hB⟩
  rw [show cfgErr gRuns = .wrap gcT 2 (.sent 0) from rfl]
  have hs1 := hs.below hB
  clear hs
  go_wp2_with fail
  refine (gline _ _).mono ?_
  rintro e w' ⟨rfl, rfl⟩
  rw [show lineF 9 = 2 from rfl]
  go_wp2_with fail
  refine (gword _ _).mono ?_
  rintro e w' ⟨rfl, rfl⟩
  rw [show wordF 9 = 1 from rfl]
  go_wp2_with fail
  refine (gaddr _ _ _).mono ?_
  rintro e w' ⟨rfl, rfl⟩
  rw [show addrF 2 1 = 9 from rfl]
  go_wp2_with fail
  refine (gset _ _ _).mono ?_
  rintro e w' ⟨rfl, rfl⟩
  rw [show setF 5 4 = 1 from rfl]
  go_wp2_with fail
  refine (garea _ _).mono ?_
  rintro e w' ⟨rfl, rfl⟩
  rw [show areaG 5 = 1 from rfl]
  go_wp2_with fail
  refine (gline _ _).mono ?_
  rintro e w' ⟨rfl, rfl⟩
  rw [show lineF 128 = -1 from rfl]
  go_wp2_with fail
  refine (is_c A (.wrap gcT 2 (.sent 0)) 1 gcT 2 _ hs1 ⟨rfl, by simp [ErrT.wf]⟩ (by omega) (by omega)).mono ?_
  rintro e w2 ⟨rfl, hB2⟩
  rw [show isK (.wrap gcT 2 (.sent 0)) 1 gcT 2 = true from by simp [isK, ErrT.code]]
  go_wp2_with fail
  go_ret
  exact ⟨rfl, hB.trans (hB2.mono hB.size)⟩

end Go.Proofs.YtaecihljgbjmcaaDoor
