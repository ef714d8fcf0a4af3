/- A message's thirteen cells written. -/
import Derived.Test.YtbefkkefglkleaaDoorMem
import Derived.Test.YtbefkkefglkleaaDoorMods
namespace Go.Proofs.YtbefkkefglkleaaDoor
open Go.RowKit Go.Extern.Stop Go.Stop Go.Extern

theorem set13 (w : World) (t : Nat) (b0 b1 b2 b3 b4 b5 b6 b7 b8 b9 b10 b11 b12 : Value) : w.setCells t 0 [b0, b1, b2, b3, b4, b5, b6, b7, b8, b9, b10, b11, b12] = (((((((((((((w.setCell ⟨t, 0, none⟩ b0).setCell ⟨t, 1, none⟩ b1).setCell ⟨t, 2, none⟩ b2).setCell ⟨t, 3, none⟩ b3).setCell ⟨t, 4, none⟩ b4).setCell ⟨t, 5, none⟩ b5).setCell ⟨t, 6, none⟩ b6).setCell ⟨t, 7, none⟩ b7).setCell ⟨t, 8, none⟩ b8).setCell ⟨t, 9, none⟩ b9).setCell ⟨t, 10, none⟩ b10).setCell ⟨t, 11, none⟩ b11).setCell ⟨t, 12, none⟩ b12) := rfl
theorem put13 (a0 a1 a2 a3 a4 a5 a6 a7 a8 a9 a10 a11 a12 b0 b1 b2 b3 b4 b5 b6 b7 b8 b9 b10 b11 b12 : Value) : putAt #[a0, a1, a2, a3, a4, a5, a6, a7, a8, a9, a10, a11, a12] 0 [b0, b1, b2, b3, b4, b5, b6, b7, b8, b9, b10, b11, b12] = #[b0, b1, b2, b3, b4, b5, b6, b7, b8, b9, b10, b11, b12] := by simp [putAt]
theorem block13 {w : World} {t : Nat} {ty : TypeId} {a0 a1 a2 a3 a4 a5 a6 a7 a8 a9 a10 a11 a12 : Value} (h : w.heap[t]? = some (.cells #[a0, a1, a2, a3, a4, a5, a6, a7, a8, a9, a10, a11, a12] ty (0, 0))) (b0 b1 b2 b3 b4 b5 b6 b7 b8 b9 b10 b11 b12 : Value) : (w.setCells t 0 [b0, b1, b2, b3, b4, b5, b6, b7, b8, b9, b10, b11, b12]).heap[t]? = some (.cells #[b0, b1, b2, b3, b4, b5, b6, b7, b8, b9, b10, b11, b12] ty (0, 0)) := by
  have := heap_setCells_at [b0, b1, b2, b3, b4, b5, b6, b7, b8, b9, b10, b11, b12] 0 w _ h
  rw [put13] at this
  exact this
theorem mods13 (w : World) (t : Nat) (b0 b1 b2 b3 b4 b5 b6 b7 b8 b9 b10 b11 b12 : Value) : Mods (fun q => q = t) w (w.setCells t 0 [b0, b1, b2, b3, b4, b5, b6, b7, b8, b9, b10, b11, b12]) := by
  rw [set13]
  exact ((((((((((((((Mods.refl (fun q => q = t) w).setCell (p := ⟨t, 0, none⟩) (show t = t from rfl) _).setCell (p := ⟨t, 1, none⟩) (show t = t from rfl) _).setCell (p := ⟨t, 2, none⟩) (show t = t from rfl) _).setCell (p := ⟨t, 3, none⟩) (show t = t from rfl) _).setCell (p := ⟨t, 4, none⟩) (show t = t from rfl) _).setCell (p := ⟨t, 5, none⟩) (show t = t from rfl) _).setCell (p := ⟨t, 6, none⟩) (show t = t from rfl) _).setCell (p := ⟨t, 7, none⟩) (show t = t from rfl) _).setCell (p := ⟨t, 8, none⟩) (show t = t from rfl) _).setCell (p := ⟨t, 9, none⟩) (show t = t from rfl) _).setCell (p := ⟨t, 10, none⟩) (show t = t from rfl) _).setCell (p := ⟨t, 11, none⟩) (show t = t from rfl) _).setCell (p := ⟨t, 12, none⟩) (show t = t from rfl) _)

end Go.Proofs.YtbefkkefglkleaaDoor
