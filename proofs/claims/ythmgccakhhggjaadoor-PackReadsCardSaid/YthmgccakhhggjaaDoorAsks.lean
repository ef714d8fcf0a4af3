/- A slice of structs of numbers that comes as an argument: of whatever kinds. -/
import Derived.Test.YthmgccakhhggjaaDoorOpen
namespace Go.Proofs.YthmgccakhhggjaaDoor
open Go.ChangeShapes Go.WideShapes Go.Deep Go.RowKit

/-- A row of requests (m numbers each, of the kinds ks) behind a slice. -/
structure ReqsAt (ks : Nat → IntKind) (m : Nat) (w : World) (v : Value) (n : Nat) (f : Nat → Nat → Int) : Prop where
  len : n ≤ maxLen
  shape : (∃ p cap, v = .slice p 0 cap ∧ n = 0) ∨ ∃ b off cap, v = .slice (some ⟨b, off, none⟩) n cap ∧ b < w.heap.size ∧ ∀ i j, i < n → j < m → w.cell? ⟨b, off + i * m + j, none⟩ = some (.int (ks j) (f i j))
  num : ∀ i j, i < n → j < m → (Lit.int (ks j) (f i j)).wf = true
theorem ReqsAt.form {ks : Nat → IntKind} {m : Nat} {w : World} {v : Value} {n : Nat} {f : Nat → Nat → Int} (h : ReqsAt ks m w v n f) :
    ∃ p cap, v = .slice p n cap ∧ ∀ i, i < n → ∃ b off, p = some ⟨b, off, none⟩ ∧ b < w.heap.size ∧ ∀ j, j < m → w.cell? ⟨b, off + i * m + j, none⟩ = some (.int (ks j) (f i j)) := by
  rcases h.shape with ⟨p, cap, hv, rfl⟩ | ⟨b, off, cap, hv, hlt, hc⟩
  · exact ⟨p, cap, hv, fun i hi => by omega⟩
  · exact ⟨_, cap, hv, fun i hi => ⟨b, off, rfl, hlt, fun j hj => hc i j hi hj⟩⟩

set_option maxRecDepth 100000 in
theorem reqs_of {H : Type} {enc : TypeId × Value → H} {W : World} {base : Nat} {v : Value} {d : DataW H} {p : List MemPlace} {t e : TypeId} {fs : Array Field} (ks : Nat → IntKind) (m : Nat) (hm0 : 0 < m) (ht : Tryd.prog.underlying t = some (.slice e)) (he : Tryd.prog.underlying e = some (.struct fs))
    (hone : oneCellFields Tryd.prog fs = true) (hC : Tryd.prog.cellsOf e = fs.size) (hfs : fs.size = m) (hk : ∀ j f, fs[j]? = some f → Tryd.prog.underlying f.type = some (.int (ks j)))
    (hv : Value.okWide Tryd.prog W .any base t v) (hj : DataW.Trod enc Tryd.prog W 0 (fun _ => true) true t v d p) : ∃ n g, ReqsAt ks m W v n g := by
  obtain ⟨a0, len, cap, rfl⟩ := okWide_slice ht hv
  obtain ⟨fuel, hf⟩ := hj
  rcases open_slice_fields ht he hone hC hf with ⟨hcs, _⟩ | ⟨a, len', cap', q, D, Pl, hcs, _, hl, hm, hmm, hx, hi⟩
  · simp only [Value.cells, List.cons.injEq, and_true] at hcs
    rw [hcs]
    exact ⟨0, fun _ _ => 0, by unfold maxLen; omega, .inl ⟨none, 0, rfl, rfl⟩, fun i j h => absurd h (by omega)⟩
  · simp only [Value.cells, List.cons.injEq, and_true] at hcs
    rw [hcs]
    simp only [if_true] at hmm
    subst hmm
    have hnum : ∀ i j, i < q → j < m → ∃ z : Int, W.cell? (a.add (i * m + j)) = some (.int (ks j) z) ∧ (Lit.int (ks j) z).wf = true := fun i j him hjm => by
      obtain ⟨ys, n', _, _, _, hfld⟩ := hi i him
      have hjf : fs[j]? = some (fs[j]'(by omega)) := Array.getElem?_eq_getElem (by omega)
      obtain ⟨v, y, hc, _, htr⟩ := hfld j _ hjf
      obtain ⟨z, e0, _, wz⟩ := DataW.trod_int (hk j _ hjf) htr
      simp only [List.cons.injEq, and_true] at e0
      rw [hfs, e0] at hc
      exact ⟨z, hc, wz⟩
    by_cases h0 : len' = 0
    · subst h0
      exact ⟨0, fun _ _ => 0, by unfold maxLen; omega, .inl ⟨some a, q, rfl, rfl⟩, fun i j h => absurd h (by omega)⟩
    · obtain ⟨z0, hc0, _⟩ := hnum 0 0 (by omega) hm0
      obtain ⟨b, off, sp⟩ := a
      rw [Nat.zero_mul] at hc0
      have hsp : sp = none := spot_none (a := Addr.add ⟨b, off, sp⟩ (0 + 0)) hc0
      subst hsp
      refine ⟨len', fun i j => if h : i < q ∧ j < m then (hnum i j h.1 h.2).choose else 0, by omega, .inr ⟨b, off, q, rfl, World.block_lt_of_cell? _ _ hc0, fun i j hi' hj' => ?_⟩, fun i j hi' hj' => ?_⟩
      · have h : i < q ∧ j < m := ⟨by omega, hj'⟩
        simp only [dif_pos h]
        have := (hnum i j h.1 h.2).choose_spec.1
        rw [← this, Addr.add_lit, Nat.add_assoc]
      · have h : i < q ∧ j < m := ⟨by omega, hj'⟩
        simp only [dif_pos h]
        exact (hnum i j h.1 h.2).choose_spec.2

end Go.Proofs.YthmgccakhhggjaaDoor
