/- A cell of a window written; 'copy' onto a window; a new row of n noughts. -/
import Derived.Test.YtbefkkefglkleaaDoorWin2
import Derived.Test.YtbefkkefglkleaaDoorMods
import Derived.Laws.CopyRow
import Derived.OwnWalk
namespace Go.Proofs.YtbefkkefglkleaaDoor
open Go.RowKit Go.Extern.Stop Go.Stop Go.Extern

theorem winRow_fresh (w : World) (e : TypeId) (size : Nat) : winRow (w.alloc (.cells #[] e)) w.heap.size e size (.slice (some ⟨w.heap.size, 0, none⟩) 0 0) 0 [] :=
  .of_owns (by simpa using World.ownsRow_made w (size := size) #[] 0 (Nat.le_refl _) (Nat.zero_le _) (by simp))
/-- A row that was built of cells. -/
theorem slc_built (w : World) (e : TypeId) (size n : Nat) (cs : List Value) (h : cs.length = n * size) : slc (w.alloc (.cells cs.toArray e)) size (.slice (some ⟨w.heap.size, 0, none⟩) n n) n cs :=
  ⟨h, _, _, rfl, fun _ => ⟨w.heap.size, 0, rfl, by simp, fun j x hj => by
    rw [Nat.zero_add, World.cell?_alloc_new]
    simpa using hj⟩⟩
theorem drop_take_set {α : Type} (l : List α) (off m k : Nat) (u : α) (hk : k < m) : ((l.set (off + k) u).drop off).take m = ((l.drop off).take m).set k u := by
  apply List.ext_getElem?
  intro j
  simp only [List.getElem?_take, List.getElem?_drop, List.getElem?_set, List.length_take, List.length_drop]
  by_cases hj : j < m
  · by_cases hjk : k = j
    · subst hjk
      simp only [if_pos hk, if_true]
      by_cases h : off + k < l.length
      · rw [if_pos h, if_pos (by omega)]
      · rw [if_neg h, if_neg (by omega)]
    · rw [if_pos hj, if_neg (by omega), if_neg hjk, if_pos hj]
  · rw [if_neg hj]
    by_cases hjk : k = j
    · omega
    · rw [if_neg hjk, if_neg hj]

/-- A cell of a window written. -/
theorem winRow.set {w : World} {base : Nat} {e : TypeId} {size : Nat} {v : Value} {n : Nat} {xs : List Value} (h : winRow w base e size v n xs) {g off cap : Nat} (hv : v = .slice (some ⟨g, off, none⟩) n cap) (k : Nat) (hk : k < n * size) (u : Value) :
    winRow (w.setCell ⟨g, off + k, none⟩ u) base e size v n (xs.set k u) := by
  subst hv
  refine ⟨by rw [List.length_set]; exact h.1, .inr ?_⟩
  rcases h.2 with ⟨h2, _⟩ | ⟨g', off', cap', cur, he, hb, hg, hn, hm, hs, hx⟩
  · simp only [Value.slice.injEq] at h2
    exact absurd h2.1 (by simp)
  · simp only [Value.slice.injEq, Option.some.injEq, Addr.mk.injEq] at he
    obtain ⟨⟨rfl, rfl, _⟩, _, rfl⟩ := he
    refine ⟨g, off, cap, _, rfl, hb, heap_setCell_at hg u, hn, hm, by simpa using hs, ?_⟩
    rw [Array.toList_setIfInBounds, drop_take_set _ _ _ _ _ hk, hx]


theorem winRow.frozen {w : World} {base : Nat} {e : TypeId} {size : Nat} {v : Value} {n : Nat} {xs : List Value} (h : winRow w base e size v n xs) {g off cap : Nat} (hv : v = .slice (some ⟨g, off, none⟩) n cap) (k : Nat) : w.frozen? ⟨g, off + k, none⟩ = false := by
  subst hv
  rcases h.2 with ⟨h2, _⟩ | ⟨g', off', cap', cur, he, hb, hg, _⟩
  · simp only [Value.slice.injEq] at h2
    exact absurd h2.1 (by simp)
  · simp only [Value.slice.injEq, Option.some.injEq, Addr.mk.injEq] at he
    obtain ⟨⟨rfl, rfl, _⟩, _, rfl⟩ := he
    exact frozen_of hg _

section
variable {P : Program} (w : World)
theorem run_copy_win (t s ty : TypeId) (base : Nat) (e : TypeId) (i : TypeInfo) (size : Nat) (ht : P.underlying t = some (.slice e)) (hi : P.info? e = some i) (hsize : i.size = size)
    (v : Value) (n : Nat) (xs : List Value) (hown : winRow w base e size v n xs) (u : Value) (m : Nat) (ys : List Value) (hu : slc w size u m ys) (h1 : ∀ u ∈ ys, u.oneCell' = true) (hm : m ≤ n) :
    ∃ w', (Builtin.copy_ #[t, s] ty #[v, u]).run P w = .ok (goInt m) w' ∧ winRow w' base e size v n (ys ++ xs.drop (m * size)) ∧ w.grownBy w' v.ownBlock := by
  subst hsize
  obtain ⟨hlen, ua, uc, rfl, hc⟩ := hu
  obtain ⟨a, cap, rfl⟩ := hown.len
  have hmin : Nat.min m n = m := Nat.min_eq_left hm
  rcases Nat.eq_zero_or_pos m with h0 | h0
  · subst h0
    obtain rfl : ys = [] := List.eq_nil_of_length_eq_zero (by simpa using hlen)
    have hf : (Builtin.firstCells i.size 0 (.slice ua 0 uc)).run P w = .ok #[] w := by
      cases ua with
      | none => exact run_firstCells_none w _ _ _ _
      | some a => exact run_firstCells_some w _ _ a 0 uc [] (by simp) (by intro j u h; simp at h)
    refine ⟨w, ?_, by simpa using hown, ⟨rfl, rfl, rfl, Nat.le_refl _, fun _ _ _ => rfl⟩⟩
    cases a <;> simp [Builtin.copy_, run_underlying ht, sizeOf, typeInfo, hi, Builtin.lenOf, hmin, hf, storeCells]
  · obtain ⟨g2, off2, rfl, hg2, hcc⟩ := hc h0
    rcases hown.2 with ⟨h2, h3⟩ | ⟨g, off, cap', cur, he, hb, hg, hn, hcm, hs, hx⟩
    · omega
    · simp only [Value.slice.injEq] at he
      obtain ⟨rfl, _, rfl⟩ := he
      have hf := run_firstCells_some (P := P) w i.size m ⟨g2, off2, none⟩ m uc ys hlen (fun j u hj => by rw [Addr.add_lit]; exact hcc j u hj)
      have hms : m * i.size ≤ n * i.size := Nat.mul_le_mul_right _ hm
      have hns : n * i.size ≤ cap * i.size := Nat.mul_le_mul_right _ hn
      have hst := run_storeCells_at P g off e ys 0 cur w hg (by omega) h1
      simp only [Nat.add_zero] at hst
      refine ⟨w.setRow g (cur.toList.take off ++ ys ++ cur.toList.drop (off + ys.length)).toArray, ?_, ⟨?_, .inr ⟨g, off, cap, _, rfl, hb, setRow_heap w g cur _ e _ hg, hn, hcm, ?_, ?_⟩⟩, ⟨rfl, rfl, rfl, by simp, fun k _ hk => setRow_other w g k _ (fun e => hk (by simp [Value.ownBlock, e]))⟩⟩
      · simp [Builtin.copy_, run_underlying ht, sizeOf, typeInfo, hi, Builtin.lenOf, hmin, hf, hst]
      · rw [List.length_append, List.length_drop, hlen, hown.1]
        omega
      · simp only [List.size_toArray, List.length_append, List.length_take, List.length_drop, Array.length_toList]
        omega
      · rw [List.append_assoc, List.drop_left' (by simp; omega), List.take_append, List.take_of_length_le (by omega), ← hx, List.drop_take, List.drop_drop, hlen]
end

theorem wpList_copy_win {P : Program} {w : World} {ops : Array Oper} {rest : List Oper} {o : Oper} {a : Act} {Q : Exit → Act → World → Prop} (hgd : o.guard = none) (d x : Operand) (t s : TypeId)
    (ho : o.op = .call { callee := .builtin .copy, args := #[d, x], argTypes := #[t, s] }) (base : Nat) (e : TypeId) (i : TypeInfo) (size : Nat) (ht : P.underlying t = some (.slice e)) (hi : P.info? e = some i) (hsize : i.size = size)
    (v : Value) (n : Nat) (xs : List Value) (hd : a.eval d = v) (hown : winRow w base e size v n xs) (u : Value) (m : Nat) (ys : List Value) (hx : a.eval x = u) (hu : slc w size u m ys) (h1 : ∀ u ∈ ys, u.oneCell' = true) (hm : m ≤ n)
    (h : ∀ w', winRow w' base e size v n (ys ++ xs.drop (m * size)) → w.grownBy w' v.ownBlock → wpList P ops Q rest (a.put o.dst (goInt m)) w') : wpList P ops Q (o :: rest) a w := by
  refine wpList_plain hgd fun K hK => ?_
  obtain ⟨w', hrun, h2, h3⟩ := run_copy_win (P := P) w t s o.type base e i size ht hi hsize v n xs hown u m ys hu h1 hm
  unfold Oper.wp
  simp [execOp, ho, resolve, invoke, builtin, hd, hx, hrun, Result.andThen]
  exact hK _ _ (h w' h2 h3)

/-- 'make' of n elements: a window of its own. -/
theorem wpList_make_win {P : Program} (w : World) {ops : Array Oper} {rest : List Oper} {o : Oper} {a : Act} {Q : Exit → Act → World → Prop}
    (hg : o.guard = none) (l c : Operand) (t : TypeId) (hop : o.op = Op.makeSlice t l c)
    (base : Nat) (e : TypeId) (i : TypeInfo) (z : Value) (size : Nat) (h1 : P.underlying t = some (.slice e)) (h2 : P.info? e = some i) (h3 : i.zero = some z) (h4 : i.size = size)
    (n : Nat) (hl : a.eval l = .int .i64 n) (hc : a.eval c = .int .i64 n) (b2 : i.bytes * n ≤ 281474976710656) (b3 : n ≤ maxLen) (b4 : base ≤ w.heap.size)
    (hK : ∀ w', winRow w' base e size (.slice (some ⟨w.heap.size, 0, none⟩) n n) n (madeCells z.cells (n * size)).toList → Below w.heap.size w w' → wpList P ops Q rest (a.put o.dst (.slice (some ⟨w.heap.size, 0, none⟩) n n)) w') :
    wpList P ops Q (o :: rest) a w :=
  wpList_make_full w hg l c t hop base e i z size h1 h2 h3 h4 .i64 .i64 n n n hl hc rfl rfl b2 b3 b4 fun w' hown hgr =>
    hK w' (.of_owns hown) ⟨hgr.os, hgr.tape, hgr.output, hgr.size, fun k hk => hgr.block k hk (by simp)⟩

end Go.Proofs.YtbefkkefglkleaaDoor
