/- slices.Delete of one message: in place. -/
import Derived.Test.YtbefkkefglkleaaDoorFa2
import Derived.Test.YtbefkkefglkleaaDoorWin
import Derived.Laws.CopyRow
namespace Go.Proofs.YtbefkkefglkleaaDoor
open Go.RowKit Go.Extern.Stop Go.Stop Go.Extern

section
variable {P : Program} {w : World} {base : Nat} {e : TypeId} {size g off n cap : Nat} {xs : List Value}
/-- Cells stored behind the window, within its room. -/
theorem winRow.store_in (h : winRow w base e size (.slice (some ⟨g, off, none⟩) n cap) n xs) (at_ m : Nat) (news : List Value) (hl : news.length = m * size) (h1 : ∀ u ∈ news, u.oneCell' = true) (hat : at_ ≤ n) (hroom : at_ + m ≤ cap) :
    ∃ w', (storeCells ⟨g, off + at_ * size, none⟩ news).run P w = .ok () w' ∧ winRow w' base e size (.slice (some ⟨g, off, none⟩) (at_ + m) cap) (at_ + m) (xs.take (at_ * size) ++ news) ∧ w.grownBy w' (some g) ∧ (at_ = n → winRow w' base e size (.slice (some ⟨g, off, none⟩) n cap) n xs) := by
  obtain ⟨hlen, h2⟩ := h
  rcases h2 with ⟨h2, _⟩ | ⟨g', off', cap', cur, hv, hbg, hg, hnc, hcm, hcs, htake⟩
  · cases h2
  · simp only [Value.slice.injEq, Option.some.injEq, Addr.mk.injEq, true_and] at hv
    obtain ⟨⟨rfl, rfl, _⟩, rfl⟩ := hv
    have hac : at_ * size ≤ n * size := Nat.mul_le_mul_right _ hat
    have hmc : (at_ + m) * size ≤ cap * size := Nat.mul_le_mul_right _ hroom
    rw [Nat.add_mul] at hmc
    have hfit : off + at_ * size + news.length ≤ cur.size := by rw [hl]; omega
    have hst := run_storeCells_at P g (off + at_ * size) e news 0 cur w hg (by simpa using hfit) h1
    simp only [Nat.add_zero] at hst
    have hxt : (cur.toList.drop off).take (at_ * size) = xs.take (at_ * size) := by rw [← htake, List.take_take, Nat.min_eq_left hac]
    refine ⟨_, hst, ⟨?_, .inr ⟨g, off, cap, _, rfl, hbg, setRow_heap w g cur _ e _ hg, hroom, hcm, ?_, ?_⟩⟩, ⟨rfl, rfl, rfl, by simp, fun k _ hk => setRow_other w g k _ (fun e => hk (by simp [e]))⟩, fun hn => ⟨hlen, .inr ⟨g, off, cap, _, rfl, hbg, setRow_heap w g cur _ e _ hg, hnc, hcm, ?_, ?_⟩⟩⟩
    · rw [List.length_append, List.length_take, hlen, Nat.min_eq_left hac, hl, Nat.add_mul]
    · simp only [List.size_toArray, List.length_append, List.length_take, List.length_drop, Array.length_toList]
      omega
    · have h2 : off + at_ * size ≤ cur.size := by omega
      rw [List.append_assoc, List.drop_append_of_le_length (by simp only [List.length_take, Array.length_toList]; omega), List.drop_take, Nat.add_sub_cancel_left, hxt, ← List.append_assoc, Nat.add_mul, ← hl]
      have e1 : at_ * size + news.length = (xs.take (at_ * size) ++ news).length := by rw [List.length_append, List.length_take, hlen, Nat.min_eq_left hac]
      rw [e1]
      exact List.take_left
    · simp only [List.size_toArray, List.length_append, List.length_take, List.length_drop, Array.length_toList]
      omega
    · subst hn
      have h2 : off + at_ * size ≤ cur.size := by omega
      rw [List.append_assoc, List.drop_append_of_le_length (by simp only [List.length_take, Array.length_toList]; omega), List.drop_take, Nat.add_sub_cancel_left, htake, ← hlen]
      exact List.take_left
/-- append within the room: in place. -/
theorem run_append_in (t ty : TypeId) (i : TypeInfo) (ht : P.underlying t = some (.slice e)) (hi : P.info? e = some i) (hsize : i.size = size)
    (h : winRow w base e size (.slice (some ⟨g, off, none⟩) n cap) n xs) (at_ : Nat) (hat : at_ ≤ n) (a : Addr) (m c : Nat) (news : List Value) (hl : news.length = m * size) (hnews : ∀ j u, news[j]? = some u → w.cell? (a.add j) = some u) (h1 : ∀ u ∈ news, u.oneCell' = true) (hroom : at_ + m ≤ cap) :
    ∃ w', (Builtin.append_ #[t, t] ty #[.slice (some ⟨g, off, none⟩) at_ cap, .slice (some a) m c]).run P w = .ok (.slice (some ⟨g, off, none⟩) (at_ + m) cap) w' ∧ winRow w' base e size (.slice (some ⟨g, off, none⟩) (at_ + m) cap) (at_ + m) (xs.take (at_ * size) ++ news) ∧ w.grownBy w' (some g) := by
  subst hsize
  obtain ⟨w', hs, hr, hg, _⟩ := h.store_in (P := P) at_ m news hl h1 hat hroom
  have hf := run_firstCells_some (P := P) w i.size m a m c news hl hnews
  refine ⟨w', ?_, hr, hg⟩
  simp [Builtin.append_, run_underlying ht, sizeOf, typeInfo, hi, Builtin.lenOf, hroom, hf, Addr.add_lit, hs]
end
theorem nInfoM : (Tryd.prog.info? 32).map (fun i => (i.zero, i.size, i.bytes)) = some (some (.agg #[.int .i64 0, .int .i64 0, .int .i64 0, .int .i64 0, .int .i64 0, .int .i64 0, .int .i64 0, .int .u32 0, .int .u32 0, .int .u32 0, .int .u32 0, .int .u32 0, .bool false]), 13, 80) := by kernel_rfl
/-- clear of one message behind the window. -/
theorem run_clear_one {w : World} {base g off n cap c : Nat} {xs : List Value} (h : winRow w base 32 13 (.slice (some ⟨g, off, none⟩) n cap) n xs) (hroom : n + 1 ≤ cap) :
    ∃ w', (∀ ty, (Builtin.clear_ #[44] ty #[.slice (some ⟨g, off + n * 13, none⟩) 1 c]).run Tryd.prog w = .ok (.tuple #[]) w') ∧ winRow w' base 32 13 (.slice (some ⟨g, off, none⟩) n cap) n xs ∧ w.grownBy w' (some g) := by
  obtain ⟨w', hs, _, hg, hk⟩ := h.store_in (P := Tryd.prog) n 1 zeroM.cs rfl (cs_one _) (Nat.le_refl _) hroom
  refine ⟨w', fun ty => ?_, hk rfl, hg⟩
  have hz : ∀ w, (zeroValue 32).run Tryd.prog w = .ok zeroM.v w := fun w => by kernel_rfl
  have hc : (Builtin.zeroCells zeroM.v.cells 1).toList = zeroM.cs := by kernel_rfl
  simp [Builtin.clear_, run_underlying Tryd.underlying44, hz, hc, hs]

end Go.Proofs.YtbefkkefglkleaaDoor
