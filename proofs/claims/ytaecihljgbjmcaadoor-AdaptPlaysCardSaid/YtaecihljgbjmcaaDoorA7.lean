/- adapt: facts on the counters, and a row of requests in memory. -/
import Derived.Test.YtaecihljgbjmcaaDoorA6
import Derived.Test.YtaecihljgbjmcaaDoorAid
import Derived.Test.YtaecihljgbjmcaaDoorOpen
import Derived.OpenShut
namespace Go.Proofs.YtaecihljgbjmcaaDoor
open Go.RowKit

theorem updC_ne {C : Nat → Int} {k j : Nat} {v : Int} (h : j ≠ k) : updC C k v j = C j := by simp [updC, h]

theorem readC_far {C : Nat → Int} {i k : Nat} {core holders : Int} (h : k < 2 + i * 5 ∨ 2 + i * 5 + 5 ≤ k) : readC C i core holders k = C k := by
  simp only [readC]
  split
  · rw [updC_ne (by omega)]
  · rw [updC_ne (by omega), updC_ne (by omega)]
theorem moveC_far {C : Nat → Int} {i k : Nat} {core : Int} (h : k < 2 + i * 5 ∨ 2 + i * 5 + 5 ≤ k) : moveC C i core k = C k := by
  simp only [moveC]
  rw [updC_ne (by omega), updC_ne (by omega)]
theorem updateC_far {C : Nat → Int} {i k : Nat} {core : Int} (h : k < 2 + i * 5 ∨ 2 + i * 5 + 5 ≤ k) : updateC C i core k = C k := by
  rw [updateC, moveC_far h, updC_ne (by omega)]
theorem writeC_far {C : Nat → Int} {i k : Nat} {core holders : Int} (h : k < 2 + i * 5 ∨ 2 + i * 5 + 5 ≤ k) : writeC C i core holders k = C k := by
  simp only [writeC]
  split
  · rw [moveC_far h, updC_ne (by omega)]
  · rw [moveC_far h, updC_ne (by omega), updC_ne (by omega)]

/-- A request turns no cell but its own region's. -/
theorem noteC_far {C : Nat → Int} {line kind core holders : Int} {k : Nat} (h : k < 2 ∨ ∃ i j : Nat, k = 2 + i * 5 + j ∧ j < 5 ∧ (i : Int) ≠ line / 4) : noteC C line kind core holders k = C k := by
  unfold noteC
  split
  · rename_i hn
    have hn := of_decide_eq_true hn
    have hfar : k < 2 + (line / 4).toNat * 5 ∨ 2 + (line / 4).toNat * 5 + 5 ≤ k := by
      rcases h with h | ⟨i, j, rfl, hj, hi⟩
      · omega
      · have : i ≠ (line / 4).toNat := by omega
        rcases Nat.lt_or_ge i (line / 4).toNat with h' | h'
        · left; omega
        · right; omega
    split
    · exact readC_far hfar
    · split
      · exact writeC_far hfar
      · exact updateC_far hfar
  · rfl

theorem pickF_in {C : Nat → Int} {i : Nat} {m : Int} (h0 : 0 ≤ m) (h3 : m ≤ 3) : 0 ≤ pickF C i m ∧ pickF C i m ≤ 3 := by
  unfold pickF
  split
  · omega
  · split
    · omega
    · split
      · omega
      · split <;> omega
theorem pickF_again (C : Nat → Int) (i : Nat) (m : Int) : pickF C i (pickF C i m) = pickF C i m := by
  unfold pickF
  by_cases h1 : C 0 ≤ C (2 + i * 5)
  · simp [h1]
  · by_cases h2 : C 0 ≤ C (2 + i * 5 + 1)
    · simp [h1, h2]
    · by_cases h3 : C 0 ≤ C (2 + i * 5 + 2)
      · simp [h1, h2, h3]
      · simp only [if_neg h1, if_neg h2, if_neg h3]
        split <;> rfl
theorem pickF_calm {C : Nat → Int} {i : Nat} {m : Int} (h1 : C (2 + i * 5) < C 0) (h2 : C (2 + i * 5 + 1) < C 0) (h3 : C (2 + i * 5 + 2) < C 0) : pickF C i m = 0 ∨ pickF C i m = m := by
  unfold pickF
  rw [if_neg (by omega), if_neg (by omega), if_neg (by omega)]
  split
  · exact .inl rfl
  · exact .inr rfl

theorem counts_any (b : Nat) (C : Nat → Int) (i : Int) (w : World) (h : AdaptAt w b C) (h0 : 0 ≤ i) (h8 : i < 8) :
    Calls Tryd.prog 17 #[.pointer (some ⟨b, 0, none⟩), .int .i64 i] w fun e w' => e = .returned (.tuple #[.int .i64 (C (2 + i.toNat * 5)), .int .i64 (C (2 + i.toNat * 5 + 1)), .int .i64 (C (2 + i.toNat * 5 + 2))]) ∧ w' = w.drew := by
  obtain ⟨n, rfl⟩ := Int.eq_ofNat_of_zero_le h0
  exact counts_ok b C n w h (by omega)

/-- A row of requests (four numbers each) behind a slice. -/
structure AsksAt (w : World) (v : Value) (n : Nat) (f : Nat → Nat → Int) : Prop where
  len : n ≤ maxLen
  shape : (∃ p cap, v = .slice p 0 cap ∧ n = 0) ∨ ∃ b off cap, v = .slice (some ⟨b, off, none⟩) n cap ∧ b < w.heap.size ∧ ∀ i j, i < n → j < 4 → w.cell? ⟨b, off + i * 4 + j, none⟩ = some (.int .i64 (f i j))
  num : ∀ i j, i < n → j < 4 → -9223372036854775808 ≤ f i j ∧ f i j ≤ 9223372036854775807

open Go.ChangeShapes Go.WideShapes Go.Deep in
set_option maxRecDepth 100000 in
theorem asks_of_trod {H : Type} {enc : TypeId × Value → H} {W : World} {base : Nat} {v : Value} {d : DataW H} {p : List MemPlace} (hv : Value.okWide Tryd.prog W .any base 32 v) (hj : DataW.Trod enc Tryd.prog W 0 (fun _ => true) true 32 v d p)
    (_hlt : ∀ x ∈ p, x.block < W.heap.size) : ∃ n g, AsksAt W v n g := by
  obtain ⟨a0, len, cap, rfl⟩ := okWide_slice Tryd.underlying32 hv
  obtain ⟨fuel, hf⟩ := hj
  rcases open_slice_fields Tryd.underlying32 Tryd.underlying35 (by kernel_rfl) (by kernel_rfl) hf with ⟨hcs, _⟩ | ⟨a, len', cap', m, D, Pl, hcs, _, hl, hm, hmm, hx, hi⟩
  · simp only [Value.cells, List.cons.injEq, and_true] at hcs
    rw [hcs]
    exact ⟨0, fun _ _ => 0, by unfold maxLen; omega, .inl ⟨none, 0, rfl, rfl⟩, fun i j h => absurd h (by omega)⟩
  · simp only [Value.cells, List.cons.injEq, and_true] at hcs
    rw [hcs]
    simp only [if_true] at hmm
    subst hmm
    simp only [Prod.mk.injEq] at hx
    have hnum : ∀ i j, i < m → j < 4 → ∃ z : Int, W.cell? (a.add (i * 4 + j)) = some (.int .i64 z) ∧ (Lit.int .i64 z).wf = true := fun i j him hj4 => by
      obtain ⟨ys, n', _, _, _, hfld⟩ := hi i him
      have one : ∀ (f : Field), f.type = 3 → (∃ (v : Value) (y : DataW H × List MemPlace), W.cell? (a.add (i * 4 + j)) = some v ∧ ys[j]? = some y ∧ DataW.trod enc Tryd.prog W 0 (fun _ => true) true n' f.type [v] = some y) →
          ∃ z : Int, W.cell? (a.add (i * 4 + j)) = some (.int .i64 z) ∧ (Lit.int .i64 z).wf = true := fun f hft ⟨v, y, hc, _, ht⟩ => by
        rw [hft] at ht
        obtain ⟨z, e0, _, wz⟩ := DataW.trod_int Tryd.underlying3 ht
        simp only [List.cons.injEq, and_true] at e0
        exact ⟨z, by rw [hc, e0], wz⟩
      match j, hj4 with
      | 0, _ => exact one _ rfl (hfld 0 _ rfl)
      | 1, _ => exact one _ rfl (hfld 1 _ rfl)
      | 2, _ => exact one _ rfl (hfld 2 _ rfl)
      | 3, _ => exact one _ rfl (hfld 3 _ rfl)
    by_cases h0 : len' = 0
    · subst h0
      exact ⟨0, fun _ _ => 0, by unfold maxLen; omega, .inl ⟨some a, m, rfl, rfl⟩, fun i j h => absurd h (by omega)⟩
    · obtain ⟨z0, hc0, _⟩ := hnum 0 0 (by omega) (by omega)
      obtain ⟨b, off, sp⟩ := a
      have hsp : sp = none := spot_none (a := Addr.add ⟨b, off, sp⟩ (0 * 4 + 0)) hc0
      subst hsp
      refine ⟨len', fun i j => if h : i < m ∧ j < 4 then (hnum i j h.1 h.2).choose else 0, by omega, .inr ⟨b, off, m, rfl, World.block_lt_of_cell? _ _ hc0, fun i j hi' hj' => ?_⟩, fun i j hi' hj' => ?_⟩
      · have h : i < m ∧ j < 4 := ⟨by omega, hj'⟩
        simp only [dif_pos h]
        have := (hnum i j h.1 h.2).choose_spec.1
        rw [← this]
        by_cases hz : i * 4 = 0 ∧ j = 0 <;> simp [Addr.add, Nat.add_assoc, hz]
      · have h : i < m ∧ j < 4 := ⟨by omega, hj'⟩
        simp only [dif_pos h]
        exact Go.bounds_i64 (hnum i j h.1 h.2).choose_spec.2

end Go.Proofs.YtaecihljgbjmcaaDoor
