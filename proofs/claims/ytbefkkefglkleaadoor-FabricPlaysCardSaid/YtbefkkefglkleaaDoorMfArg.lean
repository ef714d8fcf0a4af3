/- Messages that come as arguments. -/
import Derived.Test.YtbefkkefglkleaaDoorOpen
import Derived.Test.YtbefkkefglkleaaDoorFa2
import Derived.Deep.Fields
import Derived.ChangeSame
import Derived.ProofKit
import Derived.OpenShut
namespace Go.Proofs.YtbefkkefglkleaaDoor
open Go.ChangeShapes Go.WideShapes Go.Deep Go.RowKit

theorem nCellsI1 : Tryd.prog.cellsOf 3 = 1 := by kernel_rfl
theorem nCellsU1 : Tryd.prog.cellsOf 28 = 1 := by kernel_rfl
theorem nCellsMsg : Tryd.prog.cellsOf 32 = 13 := by kernel_rfl
theorem nCellsLine : Tryd.prog.cellsOf 30 = 4 := by kernel_rfl
theorem nCellsB1 : Tryd.prog.cellsOf 4 = 1 := by kernel_rfl
set_option maxRecDepth 100000 in
theorem line_cells {H : Type} {enc : TypeId × Value → H} {W : World} {n : Nat} {cs : List Value} {x : DataW H × List MemPlace} (h : DataW.trod enc Tryd.prog W 0 (fun _ => true) true n 30 cs = some x) : ∃ a b c d : Int, cs = [.int .u32 a, .int .u32 b, .int .u32 c, .int .u32 d] ∧ in32 a ∧ in32 b ∧ in32 c ∧ in32 d := by
  obtain ⟨xs, m, _, _, hl, hxl, hel⟩ := DataW.trod_array Tryd.underlying30 h
  rw [nCellsLine] at hl
  have one : ∀ j, j < 4 → ∃ z : Int, (cs.drop j).take 1 = [.int .u32 z] ∧ in32 z := fun j hj => by
    have h := hel j hj
    rw [nCellsU1, Nat.mul_one, List.getElem?_eq_getElem (show j < xs.length by omega)] at h
    obtain ⟨z, e0, _, b0⟩ := DataW.trod_int Tryd.underlying28 h
    exact ⟨z, e0, bounds_u32 b0⟩
  obtain ⟨a, e0, b0⟩ := one 0 (by omega)
  obtain ⟨b, e1, b1⟩ := one 1 (by omega)
  obtain ⟨c, e2, b2⟩ := one 2 (by omega)
  obtain ⟨d, e3, b3⟩ := one 3 (by omega)
  clear one hel h
  match cs, hl with
  | [a0, a1, a2, a3], _ =>
    simp only [List.drop_zero, List.drop_succ_cons, List.take_succ_cons, List.take_zero, List.cons.injEq, and_true] at e0 e1 e2 e3
    subst e0 e1 e2 e3
    exact ⟨a, b, c, d, rfl, b0, b1, b2, b3⟩
set_option maxRecDepth 100000 in
theorem msg_cells {H : Type} {enc : TypeId × Value → H} {W : World} {fuel : Nat} {cs : List Value} {x : DataW H × List MemPlace} (hsz : cs.length = 13) (hf : DataW.trod enc Tryd.prog W 0 (fun _ => true) true fuel 32 cs = some x) : ∃ e : MsgV, cs = e.cs ∧ e.fit := by
  obtain ⟨xs, n, _, _, hl, hxl, hfld⟩ := DataW.trod_struct Tryd.underlying32 hf
  have hxl : xs.length = 10 := hxl
  have one : ∀ (j : Nat) (f : Field) (K : IntKind), j < 10 → Tryd.prog.underlying f.type = some (.int K) → Tryd.prog.cellsOf f.type = 1 → f.offset = j → DataW.trod enc Tryd.prog W 0 (fun _ => true) true n f.type ((cs.drop f.offset).take (Tryd.prog.cellsOf f.type)) = xs[j]? →
      ∃ z : Int, (cs.drop j).take 1 = [.int K z] ∧ (Lit.int K z).wf = true := fun j f K hj9 ht hc ho h => by
    rw [ho, hc, List.getElem?_eq_getElem (show j < xs.length by omega)] at h
    obtain ⟨z, e0, _, b0⟩ := DataW.trod_int ht h
    exact ⟨z, e0, b0⟩
  obtain ⟨z0, e0, b0⟩ := one 0 _ .i64 (by omega) Tryd.underlying3 nCellsI1 rfl (hfld 0 _ rfl)
  obtain ⟨z1, e1, b1⟩ := one 1 _ .i64 (by omega) Tryd.underlying3 nCellsI1 rfl (hfld 1 _ rfl)
  obtain ⟨z2, e2, b2⟩ := one 2 _ .i64 (by omega) Tryd.underlying3 nCellsI1 rfl (hfld 2 _ rfl)
  obtain ⟨z3, e3, b3⟩ := one 3 _ .i64 (by omega) Tryd.underlying3 nCellsI1 rfl (hfld 3 _ rfl)
  obtain ⟨z4, e4, b4⟩ := one 4 _ .i64 (by omega) Tryd.underlying3 nCellsI1 rfl (hfld 4 _ rfl)
  obtain ⟨z5, e5, b5⟩ := one 5 _ .i64 (by omega) Tryd.underlying3 nCellsI1 rfl (hfld 5 _ rfl)
  obtain ⟨z6, e6, b6⟩ := one 6 _ .i64 (by omega) Tryd.underlying3 nCellsI1 rfl (hfld 6 _ rfl)
  obtain ⟨z7, e7, b7⟩ := one 7 _ .u32 (by omega) Tryd.underlying28 nCellsU1 rfl (hfld 7 _ rfl)
  have h8 : DataW.trod enc Tryd.prog W 0 (fun _ => true) true n 30 ((cs.drop 8).take (Tryd.prog.cellsOf 30)) = xs[8]? := hfld 8 _ rfl
  rw [nCellsLine, List.getElem?_eq_getElem (show 8 < xs.length by omega)] at h8
  obtain ⟨d0, d1, d2, d3, e8, c0, c1, c2, c3⟩ := line_cells h8
  have h9 : DataW.trod enc Tryd.prog W 0 (fun _ => true) true n 4 ((cs.drop 12).take (Tryd.prog.cellsOf 4)) = xs[9]? := hfld 9 _ rfl
  rw [nCellsB1, List.getElem?_eq_getElem (show 9 < xs.length by omega)] at h9
  obtain ⟨z9, e9, _⟩ := DataW.trod_bool Tryd.underlying4 h9
  clear one hfld hf hl h8 h9
  match cs, hsz with
  | [a0, a1, a2, a3, a4, a5, a6, a7, a8, a9, a10, a11, a12], _ =>
    simp only [List.drop_zero, List.drop_succ_cons, List.take_succ_cons, List.take_zero, List.cons.injEq, and_true] at e0 e1 e2 e3 e4 e5 e6 e7 e8 e9
    obtain ⟨rfl, rfl, rfl, rfl⟩ := e8
    subst e0 e1 e2 e3 e4 e5 e6 e7 e9
    exact ⟨⟨z0, z1, z2, z3, z4, z5, z6, z7, d0, d1, d2, d3, z9⟩, rfl, ⟨Go.bounds_i64 b0, Go.bounds_i64 b1, Go.bounds_i64 b2, Go.bounds_i64 b3, Go.bounds_i64 b4, Go.bounds_i64 b5, Go.bounds_i64 b6, bounds_u32 b7, c0, c1, c2, c3⟩⟩

/-- Messages behind a slice. -/
structure MsgsAt (w : World) (v : Value) (n : Nat) (l : List MsgV) : Prop where
  len : l.length = n
  big : n ≤ maxLen
  fit : ∀ m ∈ l, m.fit
  sl : slc w 13 v n (flatM l)
  cap : ∀ p m c, v = .slice p m c → m ≤ c
theorem MsgsAt.below {w w' : World} {v : Value} {n : Nat} {l : List MsgV} (h : MsgsAt w v n l) (hb : Below w.heap.size w w') : MsgsAt w' v n l := ⟨h.len, h.big, h.fit, h.sl.below hb, h.cap⟩
/-- A row of which each cell is known. -/
theorem flatM_row {W : World} {b off : Nat} : ∀ (n : Nat) (f : Nat → MsgV), (∀ i c u, i < n → (f i).cs[c]? = some u → W.cell? ⟨b, off + i * 13 + c, none⟩ = some u) → ∀ j u, (flatM ((List.range n).map f))[j]? = some u → W.cell? ⟨b, off + j, none⟩ = some u := by
  intro n f h j u hj
  have key : ∀ (l : List MsgV) (j : Nat) (u : Value), (flatM l)[j]? = some u → ∃ i c e, l[i]? = some e ∧ e.cs[c]? = some u ∧ j = i * 13 + c := by
    intro l
    induction l with
    | nil => intro j u hj; simp [flatM] at hj
    | cons e l ih =>
      intro j u hj
      simp only [flatM] at hj
      by_cases h6 : j < 13
      · rw [List.getElem?_append_left (by simpa [MsgV.cs] using h6)] at hj
        exact ⟨0, j, e, rfl, hj, by omega⟩
      · rw [List.getElem?_append_right (by simp [MsgV.cs]; omega)] at hj
        obtain ⟨i, c, e', h1, h2, h3⟩ := ih _ _ hj
        refine ⟨i + 1, c, e', by simpa using h1, h2, ?_⟩
        rw [cs_length] at h3
        omega
  obtain ⟨i, c, e, h1, h2, rfl⟩ := key _ j u hj
  have hi : i < n := by
    have := (List.getElem?_eq_some_iff.1 h1).1
    simpa using this
  rw [List.getElem?_map, List.getElem?_range hi] at h1
  obtain rfl := Option.some.inj h1
  rw [← Nat.add_assoc]
  exact h i c u hi h2
theorem zero_fit : zeroM.fit := by constructor <;> simp [zeroM, in64, in32]
set_option maxRecDepth 100000 in
/-- The cells of a slice of messages that can be read. -/
theorem msgs_cells {H : Type} {enc : TypeId × Value → H} {W : World} {a0 : Option Addr} {len cap fuel : Nat} {x : DataW H × List MemPlace} (hf : DataW.trod enc Tryd.prog W 0 (fun _ => true) true fuel 44 (Value.slice a0 len cap).cells.toList = some x) : ∃ n l, MsgsAt W (.slice a0 len cap) n l := by
  rcases open_slice Tryd.underlying44 hf with ⟨hcs, _⟩ | ⟨a, len', cap', q, nn, D, Pl, hcs, _, hl, hm, hmm, hx, hi⟩
  · simp only [Value.cells, List.cons.injEq, and_true] at hcs
    rw [hcs]
    exact ⟨0, [], rfl, by unfold maxLen; omega, fun m hm => (by cases hm), ⟨rfl, none, 0, rfl, fun h => absurd h (by omega)⟩, fun p m c e => by simp only [Value.slice.injEq] at e; omega⟩
  · simp only [Value.cells, List.cons.injEq, and_true] at hcs
    rw [hcs]
    simp only [if_true] at hmm
    subst hmm
    have hask : ∀ i, i < len' → ∃ e : MsgV, e.fit ∧ ∀ (j : Nat) u, e.cs[j]? = some u → W.cell? (a.add (i * 13 + j)) = some u := fun i hil => by
      obtain ⟨cs', hc, ht⟩ := hi i (by omega)
      obtain ⟨_, hcl, hat⟩ := World.cells?_some hc
      rw [nCellsMsg] at hcl hat
      obtain ⟨e, rfl, hfit⟩ := msg_cells hcl ht
      refine ⟨e, hfit, fun j u hu => ?_⟩
      have hj : j < 13 := by
        have := (List.getElem?_eq_some_iff.1 hu).1
        simpa [MsgV.cs] using this
      rw [← Go.Deep.add_add, hat j hj, hu]
    by_cases h0 : len' = 0
    · subst h0
      exact ⟨0, [], rfl, by unfold maxLen; omega, fun m hm => (by cases hm), ⟨rfl, some a, q, rfl, fun h => absurd h (by omega)⟩, fun p m c e => by simp only [Value.slice.injEq] at e; omega⟩
    · obtain ⟨e0, _, h00⟩ := hask 0 (by omega)
      have hc0 := h00 0 _ rfl
      obtain ⟨b, off, sp⟩ := a
      have hsp : sp = none := spot_none (a := Addr.add ⟨b, off, sp⟩ (0 * 13 + 0)) hc0
      subst hsp
      have hb := World.block_lt_of_cell? _ _ hc0
      refine ⟨len', (List.range len').map (fun i => if h : i < len' then (hask i h).choose else zeroM), by simp, by omega, fun m hm => ?_, ⟨by rw [flatM_length]; simp, some ⟨b, off, none⟩, q, rfl, fun _ => ⟨b, off, rfl, hb, ?_⟩⟩, fun p m c e => by simp only [Value.slice.injEq] at e; omega⟩
      · obtain ⟨i, hi', rfl⟩ := List.mem_map.1 hm
        have hil : i < len' := List.mem_range.1 hi'
        simp only [dif_pos hil]
        exact (hask i hil).choose_spec.1
      · refine flatM_row len' _ fun i c u hi' hc => ?_
        simp only [dif_pos hi'] at hc
        have := (hask i hi').choose_spec.2 c u hc
        rw [Addr.add_lit, ← Nat.add_assoc] at this
        exact this
set_option maxRecDepth 100000 in
theorem msgs_of_trod {H : Type} {enc : TypeId × Value → H} {W : World} {base : Nat} {v : Value} {d : DataW H} {p : List MemPlace} (hv : Value.okWide Tryd.prog W .any base 44 v) (hj : DataW.Trod enc Tryd.prog W 0 (fun _ => true) true 44 v d p)
    (_hlt : ∀ x ∈ p, x.block < W.heap.size) : ∃ n l, MsgsAt W v n l := by
  obtain ⟨a0, len, cap, rfl⟩ := okWide_slice Tryd.underlying44 hv
  obtain ⟨fuel, hf⟩ := hj
  exact msgs_cells hf

end Go.Proofs.YtbefkkefglkleaaDoor
