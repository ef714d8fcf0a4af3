/- A slice of numbers that comes as an argument. -/
import Derived.Test.YtbefkkefglkleaaDoorOpen
import Derived.ChangeSlices
namespace Go.Proofs.YtbefkkefglkleaaDoor
open Go.ChangeShapes Go.WideShapes Go.Deep Go.RowKit

/-- Numbers of one kind behind a slice. -/
structure IntsAt (K : IntKind) (w : World) (v : Value) (n : Nat) (g : Nat → Int) : Prop where
  len : n ≤ maxLen
  shape : (∃ p cap, v = .slice p 0 cap ∧ n = 0) ∨ ∃ b off cap, v = .slice (some ⟨b, off, none⟩) n cap ∧ b < w.heap.size ∧ ∀ i, i < n → w.cell? ⟨b, off + i, none⟩ = some (.int K (g i))
  num : ∀ i, i < n → (Lit.int K (g i)).wf = true
theorem IntsAt.below {K : IntKind} {w w' : World} {v : Value} {n : Nat} {g : Nat → Int} (h : IntsAt K w v n g) (hb : Below w.heap.size w w') : IntsAt K w' v n g := by
  refine ⟨h.len, ?_, h.num⟩
  rcases h.shape with h1 | ⟨b, off, cap, hv, hlt, hc⟩
  · exact .inl h1
  · exact .inr ⟨b, off, cap, hv, Nat.lt_of_lt_of_le hlt hb.size, fun i hi => (hb.cell (p := ⟨b, off + i, none⟩) hlt).trans (hc i hi)⟩
theorem IntsAt.form {K : IntKind} {w : World} {v : Value} {n : Nat} {g : Nat → Int} (h : IntsAt K w v n g) : ∃ p cap, v = .slice p n cap ∧ ∀ i, i < n → ∃ b off, p = some ⟨b, off, none⟩ ∧ b < w.heap.size ∧ w.cell? ⟨b, off + i, none⟩ = some (.int K (g i)) := by
  rcases h.shape with ⟨p, cap, hv, rfl⟩ | ⟨b, off, cap, hv, hlt, hc⟩
  · exact ⟨p, cap, hv, fun i hi => by omega⟩
  · exact ⟨_, cap, hv, fun i hi => ⟨b, off, rfl, hlt, hc i hi⟩⟩

set_option maxRecDepth 100000 in
theorem ints_of {H : Type} {enc : TypeId × Value → H} {W : World} {base : Nat} {v : Value} {d : DataW H} {p : List MemPlace} {t e : TypeId} {K : IntKind} (ht : Tryd.prog.underlying t = some (.slice e)) (he : Tryd.prog.underlying e = some (.int K)) (hc : Tryd.prog.cellsOf e = 1)
    (hv : Value.okWide Tryd.prog W .any base t v) (hj : DataW.Trod enc Tryd.prog W 0 (fun _ => true) true t v d p) : ∃ n g, IntsAt K W v n g := by
  obtain ⟨a0, len, cap, rfl⟩ := okWide_slice ht hv
  obtain ⟨fuel, hf⟩ := hj
  rcases open_ints ht he hc hf with ⟨hcs, _⟩ | ⟨a, len', cap', zs, hcs, _, hl, hm, hmm, _, hi, hw⟩
  · simp only [Value.cells, List.cons.injEq, and_true] at hcs
    rw [hcs]
    exact ⟨0, fun _ => 0, by unfold maxLen; omega, .inl ⟨none, 0, rfl, rfl⟩, fun i h => absurd h (by omega)⟩
  · simp only [Value.cells, List.cons.injEq, and_true] at hcs
    rw [hcs]
    simp only [if_true] at hmm
    by_cases h0 : len' = 0
    · subst h0
      exact ⟨0, fun _ => 0, by unfold maxLen; omega, .inl ⟨some a, cap', rfl, rfl⟩, fun i h => absurd h (by omega)⟩
    · have hc0 := hi 0 (by omega)
      obtain ⟨b, off, sp⟩ := a
      have hsp : sp = none := spot_none (a := Addr.add ⟨b, off, sp⟩ 0) hc0
      subst hsp
      refine ⟨len', fun i => zs.getD i 0, by omega, .inr ⟨b, off, cap', rfl, World.block_lt_of_cell? _ _ hc0, fun i hi' => ?_⟩, fun i hi' => ?_⟩
      · rw [← hi i (by omega), Addr.add_lit]
      · refine hw _ ?_
        rw [List.getD_eq_getElem?_getD, List.getElem?_eq_getElem (by omega)]
        exact List.getElem_mem _

theorem nCellsI : Tryd.prog.cellsOf 3 = 1 := by kernel_rfl
set_option maxRecDepth 100000 in
theorem ints_of_trod {H : Type} {enc : TypeId × Value → H} {W : World} {base : Nat} {v : Value} {d : DataW H} {p : List MemPlace} (hv : Value.okWide Tryd.prog W .any base 56 v) (hj : DataW.Trod enc Tryd.prog W 0 (fun _ => true) true 56 v d p)
    (_hlt : ∀ x ∈ p, x.block < W.heap.size) : ∃ n g, IntsAt .i64 W v n g := ints_of Tryd.underlying56 Tryd.underlying3 nCellsI hv hj

end Go.Proofs.YtbefkkefglkleaaDoor
