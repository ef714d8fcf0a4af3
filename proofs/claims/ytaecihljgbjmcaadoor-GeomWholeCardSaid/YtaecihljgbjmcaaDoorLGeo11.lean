/- GeomWhole: true; no condition but what a start gives. -/
import Derived.Test.YtaecihljgbjmcaaDoorLGeo7
namespace Go.Proofs.YtaecihljgbjmcaaDoor
open Go.RowKit

/-- How many of the first words lie in a set. -/
def cntW (k : Nat) : Nat → Nat → Nat
  | 0, _ => 0
  | a + 1, s => cntW k a s + if a / 4 % k = s then 1 else 0
theorem cntW_le (k a s : Nat) : cntW k a s ≤ a := by
  induction a with
  | zero => exact Nat.le_refl _
  | succ a ih =>
    unfold cntW
    split <;> omega
theorem whole_ok : ∀ k ∈ [1, 2, 4, 8], ∀ L ∈ List.range 7, ∀ s ∈ List.range 8, s < k → cntW k (4 * L) s / 4 = (L + k - 1 - s) / k := by decide
def manyA (f : Nat → Nat) : Array Value := #[.int .i64 (f 0), .int .i64 (f 1), .int .i64 (f 2), .int .i64 (f 3), .int .i64 (f 4), .int .i64 (f 5), .int .i64 (f 6), .int .i64 (f 7)]
theorem manyA_at (f : Nat → Nat) {s : Nat} (h : s < 8) : (manyA f)[s]? = some (.int .i64 (f s)) := by
  match s, h with
  | 0, _ => rfl
  | 1, _ => rfl
  | 2, _ => rfl
  | 3, _ => rfl
  | 4, _ => rfl
  | 5, _ => rfl
  | 6, _ => rfl
  | 7, _ => rfl
theorem manyA_set (f : Nat → Nat) {s : Nat} (h : s < 8) : (manyA f).setIfInBounds s (.int .i64 (f s + 1)) = manyA (fun j => f j + if s = j then 1 else 0) := by
  match s, h with
  | 0, _ => rfl
  | 1, _ => rfl
  | 2, _ => rfl
  | 3, _ => rfl
  | 4, _ => rfl
  | 5, _ => rfl
  | 6, _ => rfl
  | 7, _ => rfl
theorem keep_ok {h : Nat → Int} (hk : KeepB h) : badAt h = none := by
  obtain ⟨b0, b1, b2, b3, b4, b5, b6, b7, b8⟩ := hk
  unfold badAt
  rw [List.find?_eq_none]
  intro j hj
  rw [List.mem_range] at hj
  have p2 : isPow (h 2) = true := isPow_iff.2 (by omega)
  have p3 : isPow (h 3) = true := isPow_iff.2 (by omega)
  match j, hj with
  | 0, _ => simp only [okAt, inR_iff.2 (show 1 ≤ h 0 ∧ h 0 ≤ 64 by omega)]; decide
  | 1, _ => simp only [okAt, inR_iff.2 (show 1 ≤ h 1 ∧ h 1 ≤ 32 by omega)]; decide
  | 2, _ => simp only [okAt, p2]; decide
  | 3, _ => simp only [okAt, p3]; decide
  | 4, _ => simp only [okAt, inR_iff.2 (show 1 ≤ h 4 ∧ h 4 ≤ 8 by omega)]; decide
  | 5, _ => simp only [okAt, inR_iff.2 (show 1 ≤ h 5 ∧ h 5 ≤ 8 by omega)]; decide
  | 6, _ => simp only [okAt, inR_iff.2 (show 1 ≤ h 6 ∧ h 6 ≤ 64 by omega)]; decide
  | 7, _ => simp only [okAt, inR_iff.2 (show 1 ≤ h 7 ∧ h 7 ≤ 15 by omega)]; decide
  | 8, _ => simp only [okAt, decide_eq_true (show -1 ≤ h 8 by omega), decide_eq_true (show h 8 < h 7 by omega)]; decide

end Go.Proofs.YtaecihljgbjmcaaDoor
