/- GeomRefuses: true; no condition but what a start gives. (draft) -/
import Derived.Test.YtaecihljgbjmcaaDoorLGeo3
import Derived.Test.YtaecihljgbjmcaaDoorGeo6
import Derived.Test.YtaecihljgbjmcaaDoorCfg
namespace Go.Proofs.YtaecihljgbjmcaaDoor
open Go.RowKit

/-- A configuration with one of its numbers set anew. -/
def setK (h : Nat → Int) (k : Nat) (n : Int) : Nat → Int := fun j => if j = k then n else h j

/-- The lowest and the highest numbers that GeomRefuses sets. -/
def refLo : Nat → Int
  | 3 => 3
  | 8 => -2
  | _ => 0
def refHi : Nat → Int
  | 0 => 65
  | 1 => 33
  | 2 => 16
  | 3 => 16
  | 4 => 9
  | 5 => 9
  | 6 => 65
  | 7 => 16
  | _ => 2

theorem keep_bad {h : Nat → Int} (hk : KeepB h) {k : Nat} (hk9 : k < 9) {n : Int} (hn : n = refLo k ∨ n = refHi k) : badAt (setK h k n) = some k := by
  obtain ⟨b0, b1, b2, b3, b4, b5, b6, b7, b8⟩ := hk
  have p2 : isPow (h 2) = true := isPow_iff.2 (by omega)
  have p3 : isPow (h 3) = true := isPow_iff.2 (by omega)
  refine badAt_some hk9 ?_ fun j hj => ?_
  · rcases hn with rfl | rfl <;> match k, hk9 with
    | 0, _ => rfl
    | 1, _ => rfl
    | 2, _ => rfl
    | 3, _ => rfl
    | 4, _ => rfl
    | 5, _ => rfl
    | 6, _ => rfl
    | 7, _ => rfl
    | 8, _ => simp [okAt, setK, refLo, refHi, b7]
  · have e : ∀ i, i ≠ k → setK h k n i = h i := fun i hi => by simp [setK, hi]
    match j, (show j < 8 by omega) with
    | 0, _ => simp only [okAt, e 0 (by omega)]; exact inR_iff.2 (by omega)
    | 1, _ => simp only [okAt, e 1 (by omega)]; exact inR_iff.2 (by omega)
    | 2, _ => simp only [okAt, e 2 (by omega)]; exact p2
    | 3, _ => simp only [okAt, e 3 (by omega)]; exact p3
    | 4, _ => simp only [okAt, e 4 (by omega)]; exact inR_iff.2 (by omega)
    | 5, _ => simp only [okAt, e 5 (by omega)]; exact inR_iff.2 (by omega)
    | 6, _ => simp only [okAt, e 6 (by omega)]; exact inR_iff.2 (by omega)
    | 7, _ => simp only [okAt, e 7 (by omega)]; exact inR_iff.2 (by omega)

end Go.Proofs.YtaecihljgbjmcaaDoor
