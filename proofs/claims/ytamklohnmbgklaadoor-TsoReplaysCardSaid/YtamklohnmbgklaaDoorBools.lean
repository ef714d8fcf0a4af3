/- A slice of bools that comes as an argument. -/
import Derived.Test.YtamklohnmbgklaaDoorOpen
import Derived.Deep.Grids
namespace Go.Proofs.YtamklohnmbgklaaDoor
open Go.ChangeShapes Go.WideShapes Go.Deep Go.RowKit

/-- Bools behind a slice. -/
structure BoolsAt (w : World) (v : Value) (n : Nat) (g : Nat → Bool) : Prop where
  len : n ≤ maxLen
  shape : (∃ p cap, v = .slice p 0 cap ∧ n = 0) ∨ ∃ b off cap, v = .slice (some ⟨b, off, none⟩) n cap ∧ b < w.heap.size ∧ ∀ i, i < n → w.cell? ⟨b, off + i, none⟩ = some (.bool (g i))
theorem BoolsAt.form {w : World} {v : Value} {n : Nat} {g : Nat → Bool} (h : BoolsAt w v n g) : ∃ p cap, v = .slice p n cap ∧ ∀ i, i < n → ∃ b off, p = some ⟨b, off, none⟩ ∧ b < w.heap.size ∧ w.cell? ⟨b, off + i, none⟩ = some (.bool (g i)) := by
  rcases h.shape with ⟨p, cap, hv, rfl⟩ | ⟨b, off, cap, hv, hlt, hc⟩
  · exact ⟨p, cap, hv, fun i hi => by omega⟩
  · exact ⟨_, cap, hv, fun i hi => ⟨b, off, rfl, hlt, hc i hi⟩⟩

theorem nCellsBool : Tryd.prog.cellsOf 4 = 1 := by kernel_rfl
set_option maxRecDepth 100000 in
theorem bools_of_trod {H : Type} {enc : TypeId × Value → H} {W : World} {base : Nat} {v : Value} {d : DataW H} {p : List MemPlace} (hv : Value.okWide Tryd.prog W .any base 38 v) (hj : DataW.Trod enc Tryd.prog W 0 (fun _ => true) true 38 v d p)
    (_hlt : ∀ x ∈ p, x.block < W.heap.size) : ∃ n g, BoolsAt W v n g := by
  obtain ⟨a0, len, cap, rfl⟩ := okWide_slice Tryd.underlying38 hv
  obtain ⟨fuel, hf⟩ := hj
  rcases open_bools Tryd.underlying38 Tryd.underlying4 nCellsBool hf with ⟨hcs, _⟩ | ⟨a, len', cap', zs, hcs, _, hl, hm, _, hi⟩
  · simp only [Value.cells, List.cons.injEq, and_true] at hcs
    rw [hcs]
    exact ⟨0, fun _ => false, by unfold maxLen; omega, .inl ⟨none, 0, rfl, rfl⟩⟩
  · simp only [Value.cells, List.cons.injEq, and_true] at hcs
    rw [hcs]
    by_cases h0 : len' = 0
    · subst h0
      exact ⟨0, fun _ => false, by unfold maxLen; omega, .inl ⟨some a, cap', rfl, rfl⟩⟩
    · have hc0 := hi 0 (by omega)
      obtain ⟨b, off, sp⟩ := a
      have hsp : sp = none := spot_none (a := Addr.add ⟨b, off, sp⟩ 0) hc0
      subst hsp
      refine ⟨len', zs, by omega, .inr ⟨b, off, cap', rfl, World.block_lt_of_cell? _ _ hc0, fun i hi' => ?_⟩⟩
      rw [← hi i (by omega), Addr.add_lit]

end Go.Proofs.YtamklohnmbgklaaDoor
