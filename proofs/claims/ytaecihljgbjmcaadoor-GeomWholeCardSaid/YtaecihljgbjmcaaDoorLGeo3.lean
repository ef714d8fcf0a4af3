/- GeomTells: true; no condition but what a start gives. -/
import Derived.Test.YtaecihljgbjmcaaDoorLGeo1
import Derived.Test.YtaecihljgbjmcaaDoorGeo5
import Derived.Test.YtaecihljgbjmcaaDoorErr7
import Derived.Deep.MidRow
namespace Go.Proofs.YtaecihljgbjmcaaDoor
open Go.RowKit

theorem cfg_at {g : Nat → Int} {W : World} {b : Nat} (h : W.heap[b]? = some (cfgO g)) : W.cell? ⟨b, 0, none⟩ = some (.int .i64 (g 0)) ∧ W.cell? ⟨b, 1, none⟩ = some (.int .i64 (g 1)) ∧ W.cell? ⟨b, 2, none⟩ = some (.int .i64 (g 2)) ∧ W.cell? ⟨b, 3, none⟩ = some (.int .i64 (g 3)) ∧ W.cell? ⟨b, 4, none⟩ = some (.int .i64 (g 4)) ∧ W.cell? ⟨b, 5, none⟩ = some (.int .i64 (g 5)) ∧ W.cell? ⟨b, 6, none⟩ = some (.int .i64 (g 6)) ∧ W.cell? ⟨b, 7, none⟩ = some (.int .i64 (g 7)) ∧ W.cell? ⟨b, 8, none⟩ = some (.int .i64 (g 8)) := by
  simp [World.cell?, h, cfgO]
theorem heap_alloc_at (W : World) (o : Obj) : (W.alloc o).heap[W.heap.size]? = some o := Array.getElem?_push_size ..

theorem lineF_if (z : Int) : lineF z = if 0 ≤ z ∧ z < 128 then z / 4 else -1 := by
  unfold lineF inR
  by_cases h1 : 0 ≤ z <;> by_cases h2 : z < 128 <;> simp [h1, h2] <;> omega
theorem wordF_if (z : Int) : wordF z = if 0 ≤ z ∧ z < 128 then z % 4 else -1 := by
  unfold wordF inR
  by_cases h1 : 0 ≤ z <;> by_cases h2 : z < 128 <;> simp [h1, h2] <;> omega
theorem areaG_if (z : Int) : areaG z = if 0 ≤ z ∧ z < 32 then z / 4 else -1 := by
  unfold areaG inR
  by_cases h1 : 0 ≤ z <;> by_cases h2 : z < 32 <;> simp [h1, h2] <;> omega
theorem addrF_if (z y : Int) : addrF z y = if (0 ≤ z ∧ z < 32) ∧ (0 ≤ y ∧ y < 4) then 4 * z + y else -1 := by
  unfold addrF
  by_cases h : (0 ≤ z ∧ z < 32) ∧ (0 ≤ y ∧ y < 4)
  · rw [if_pos h, if_pos (by rw [Bool.and_eq_true, inR_iff, inR_iff]; omega)]
    omega
  · rw [if_neg h, if_neg (by rw [Bool.and_eq_true, inR_iff, inR_iff]; omega)]
theorem setF_if (z s : Int) : setF z s = if (0 ≤ z ∧ z < 32) ∧ (s = 1 ∨ s = 2 ∨ s = 4 ∨ s = 8) then z % s else -1 := by
  unfold setF
  by_cases h : (0 ≤ z ∧ z < 32) ∧ (s = 1 ∨ s = 2 ∨ s = 4 ∨ s = 8)
  · rw [if_pos h, if_pos (by rw [Bool.and_eq_true, inR_iff, isPow_iff]; omega)]
  · rw [if_neg h, if_neg (by rw [Bool.and_eq_true, inR_iff, isPow_iff]; omega)]
theorem setF_bad (z : Int) {s : Int} (p1 : (s == 1) = false) (p2 : (s == 2) = false) (p4 : (s == 4) = false) (p8 : (s == 8) = false) : setF z s = -1 := by
  rw [setF_if, if_neg]
  rw [beq_eq_false_iff_ne] at p1 p2 p4 p8
  omega

end Go.Proofs.YtaecihljgbjmcaaDoor
