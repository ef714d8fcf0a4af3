/- Operations that come as arguments. -/
import Derived.Test.YtpljdbcifaeblaaDoorOpen
import Derived.Test.YtpljdbcifaeblaaDoorPg2
import Derived.Deep.Fields
import Derived.ChangeSame
import Derived.ProofKit
namespace Go.Proofs.YtpljdbcifaeblaaDoor
open Go.ChangeShapes Go.WideShapes Go.Deep Go.RowKit

/-- Operations behind a slice. -/
structure OpsAt (w : World) (v : Value) (n : Nat) (l : List OpV) : Prop where
  len : l.length = n
  big : n ≤ maxLen
  sl : slc w 4 v n (flatP l)
  fit : ∀ o ∈ l, o.fit
  cap : ∀ p m c, v = .slice p m c → m ≤ c

/-- A row of which each cell is known. -/
theorem flatP_row {W : World} {b off : Nat} : ∀ (n : Nat) (f : Nat → OpV), (∀ i c u, i < n → (f i).cs[c]? = some u → W.cell? ⟨b, off + i * 4 + c, none⟩ = some u) → ∀ j u, (flatP ((List.range n).map f))[j]? = some u → W.cell? ⟨b, off + j, none⟩ = some u := by
  intro n f h j u hj
  have key : ∀ (l : List OpV) (j : Nat) (u : Value), (flatP l)[j]? = some u → ∃ i c e, l[i]? = some e ∧ e.cs[c]? = some u ∧ j = i * 4 + c := by
    intro l
    induction l with
    | nil => intro j u hj; simp [flatP] at hj
    | cons e l ih =>
      intro j u hj
      simp only [flatP] at hj
      by_cases h6 : j < 4
      · rw [List.getElem?_append_left (by simpa [OpV.cs] using h6)] at hj
        exact ⟨0, j, e, rfl, hj, by omega⟩
      · rw [List.getElem?_append_right (by simp [OpV.cs]; omega)] at hj
        obtain ⟨i, c, e', h1, h2, h3⟩ := ih _ _ hj
        refine ⟨i + 1, c, e', by simpa using h1, h2, ?_⟩
        simp only [OpV.cs, List.length_cons, List.length_nil] at h3
        omega
  obtain ⟨i, c, e, h1, h2, rfl⟩ := key _ j u hj
  have hi : i < n := by
    have := (List.getElem?_eq_some_iff.1 h1).1
    simpa using this
  rw [List.getElem?_map, List.getElem?_range hi] at h1
  obtain rfl := Option.some.inj h1
  rw [← Nat.add_assoc]
  exact h i c u hi h2

set_option maxRecDepth 100000 in
theorem ops_of_trod {H : Type} {enc : TypeId × Value → H} {W : World} {base : Nat} {v : Value} {d : DataW H} {p : List MemPlace} (hv : Value.okWide Tryd.prog W .any base 30 v) (hj : DataW.Trod enc Tryd.prog W 0 (fun _ => true) true 30 v d p)
    (_hlt : ∀ x ∈ p, x.block < W.heap.size) : ∃ n l, OpsAt W v n l := by
  obtain ⟨a0, len, cap, rfl⟩ := okWide_slice Tryd.underlying30 hv
  obtain ⟨fuel, hf⟩ := hj
  rcases open_slice_fields Tryd.underlying30 Tryd.underlying29 (by kernel_rfl) (by kernel_rfl) hf with ⟨hcs, _⟩ | ⟨a, len', cap', q, D, Pl, hcs, _, hl, hm, hmm, hx, hi⟩
  · simp only [Value.cells, List.cons.injEq, and_true] at hcs
    rw [hcs]
    exact ⟨0, [], rfl, by unfold maxLen; omega, ⟨rfl, none, 0, rfl, fun h => absurd h (by omega)⟩, fun o ho => (by cases ho), fun p m c e => by simp only [Value.slice.injEq] at e; omega⟩
  · simp only [Value.cells, List.cons.injEq, and_true] at hcs
    rw [hcs]
    simp only [if_true] at hmm
    subst hmm
    have hev : ∀ i, i < q → ∃ e : OpV, e.fit ∧ ∀ c u, e.cs[c]? = some u → W.cell? (a.add (i * 4 + c)) = some u := fun i hiq => by
      obtain ⟨ys, n', _, _, _, hfld⟩ := hi i hiq
      obtain ⟨v0, y0, c0, _, t0⟩ := hfld 0 _ rfl
      obtain ⟨v1, y1, c1, _, t1⟩ := hfld 1 _ rfl
      obtain ⟨v2, y2, c2, _, t2⟩ := hfld 2 _ rfl
      obtain ⟨v3, y3, c3, _, t3⟩ := hfld 3 _ rfl
      obtain ⟨z0, e0, _, b0⟩ := DataW.trod_int Tryd.underlying3 t0
      obtain ⟨z1, e1, _, b1⟩ := DataW.trod_int Tryd.underlying3 t1
      obtain ⟨z2, e2, _, b2⟩ := DataW.trod_int Tryd.underlying27 t2
      obtain ⟨z3, e3, _, b3⟩ := DataW.trod_int Tryd.underlying27 t3
      simp only [List.cons.injEq, and_true] at e0 e1 e2 e3
      subst e0 e1 e2 e3
      refine ⟨⟨z0, z1, z2, z3⟩, ⟨⟨Go.bounds_i64 b0, Go.bounds_i64 b1⟩, bounds_u32 b2, bounds_u32 b3⟩, fun c u hc => ?_⟩
      match c, hc with
      | 0, hc => obtain rfl := Option.some.inj hc; exact c0
      | 1, hc => obtain rfl := Option.some.inj hc; exact c1
      | 2, hc => obtain rfl := Option.some.inj hc; exact c2
      | 3, hc => obtain rfl := Option.some.inj hc; exact c3
      | c + 4, hc => simp [OpV.cs] at hc
    by_cases h0 : len' = 0
    · subst h0
      exact ⟨0, [], rfl, by unfold maxLen; omega, ⟨rfl, some a, q, rfl, fun h => absurd h (by omega)⟩, fun o ho => (by cases ho), fun p m c e => by simp only [Value.slice.injEq] at e; omega⟩
    · obtain ⟨e0, _, h00⟩ := hev 0 (by omega)
      have hc0 := h00 0 _ rfl
      obtain ⟨b, off, sp⟩ := a
      have hsp : sp = none := spot_none (a := Addr.add ⟨b, off, sp⟩ (0 * 4 + 0)) hc0
      subst hsp
      have hb := World.block_lt_of_cell? _ _ hc0
      refine ⟨len', (List.range len').map (fun i => if h : i < q then (hev i h).choose else ⟨0, 0, 0, 0⟩), by simp, by omega, ⟨by rw [flatP_length]; simp, some ⟨b, off, none⟩, q, rfl, fun _ => ⟨b, off, rfl, hb, ?_⟩⟩, fun o ho => ?_, fun p m c e => by simp only [Value.slice.injEq] at e; omega⟩
      rotate_left
      · obtain ⟨i, hi', rfl⟩ := List.mem_map.1 ho
        have hil : i < len' := List.mem_range.1 hi'
        have hiq : i < q := by omega
        simp only [dif_pos hiq]
        exact (hev i hiq).choose_spec.1
      refine flatP_row len' _ fun i c u hi' hc => ?_
      have hiq : i < q := by omega
      simp only [dif_pos hiq] at hc
      have := (hev i hiq).choose_spec.2 c u hc
      rw [Addr.add_lit, ← Nat.add_assoc] at this
      exact this

theorem nCellsOp : Tryd.prog.cellsOf 29 = 4 := by kernel_rfl
theorem nCellsI1 : Tryd.prog.cellsOf 3 = 1 := by kernel_rfl
theorem nCellsU1 : Tryd.prog.cellsOf 27 = 1 := by kernel_rfl
set_option maxRecDepth 100000 in
theorem open_op {H : Type} {enc : TypeId × Value → H} {W : World} {base : Nat} {v : Value} {d : DataW H} {p : List MemPlace} (hv : Value.okWide Tryd.prog W .any base 29 v)
    (hj : DataW.Trod enc Tryd.prog W 0 (fun _ => true) true 29 v d p) : ∃ e : OpV, v = e.v ∧ e.fit := by
  obtain ⟨cs, rfl, hsz⟩ := okWide_struct Tryd.underlying29 hv
  rw [nCellsOp] at hsz
  obtain ⟨fuel, hf⟩ := hj
  obtain ⟨xs, n, _, _, hl, hxl, hfld⟩ := DataW.trod_struct Tryd.underlying29 hf
  have hxl : xs.length = 4 := hxl
  have one : ∀ (j : Nat) (f : Field) (K : IntKind), j < 4 → Tryd.prog.underlying f.type = some (.int K) → Tryd.prog.cellsOf f.type = 1 → f.offset = j → DataW.trod enc Tryd.prog W 0 (fun _ => true) true n f.type ((cs.toList.drop f.offset).take (Tryd.prog.cellsOf f.type)) = xs[j]? →
      ∃ z : Int, (cs.toList.drop j).take 1 = [.int K z] ∧ (Lit.int K z).wf = true := fun j f K hj9 ht hc ho h => by
    rw [ho, hc, List.getElem?_eq_getElem (show j < xs.length by omega)] at h
    obtain ⟨z, e0, _, b0⟩ := DataW.trod_int ht h
    exact ⟨z, e0, b0⟩
  obtain ⟨z0, e0, b0⟩ := one 0 _ .i64 (by omega) Tryd.underlying3 nCellsI1 rfl (hfld 0 _ rfl)
  obtain ⟨z1, e1, b1⟩ := one 1 _ .i64 (by omega) Tryd.underlying3 nCellsI1 rfl (hfld 1 _ rfl)
  obtain ⟨z2, e2, b2⟩ := one 2 _ .u32 (by omega) Tryd.underlying27 nCellsU1 rfl (hfld 2 _ rfl)
  obtain ⟨z3, e3, b3⟩ := one 3 _ .u32 (by omega) Tryd.underlying27 nCellsU1 rfl (hfld 3 _ rfl)
  clear one hfld hf hl hv
  obtain ⟨l⟩ := cs
  match l, hsz with
  | [a0, a1, a2, a3], _ =>
    simp only [List.drop_zero, List.drop_succ_cons, List.take_succ_cons, List.take_zero, List.cons.injEq, and_true] at e0 e1 e2 e3
    subst e0 e1 e2 e3
    exact ⟨⟨z0, z1, z2, z3⟩, rfl, ⟨Go.bounds_i64 b0, Go.bounds_i64 b1⟩, bounds_u32 b2, bounds_u32 b3⟩

end Go.Proofs.YtpljdbcifaeblaaDoor
