/- The calls of TsoPlays, as they come as an argument. -/
import Derived.Test.YtamklohnmbgklaaDoorEvArg
namespace Go.Proofs.YtamklohnmbgklaaDoor
open Go.ChangeShapes Go.WideShapes Go.Deep Go.RowKit

/-- A call. -/
structure Ask10 where
  kind : Int
  core : Int
  addr : Int
  ev : Ev
  own : Bool
def Ask10.cs (a : Ask10) : List Value := [.int .i64 a.kind, .int .i64 a.core, .int .i64 a.addr, .int .i64 a.ev.kind, .int .i64 a.ev.core, .int .i64 a.ev.addr, .int .u32 a.ev.val, .int .u32 a.ev.new, .bool a.ev.done, .bool a.own]
/-- Calls behind a slice. -/
def Asks10 (w : World) (v : Value) (n : Nat) (f : Nat → Ask10) : Prop :=
  n ≤ maxLen ∧ ∃ p c, v = .slice p n c ∧ ∀ i, i < n → ∃ b off, p = some ⟨b, off, none⟩ ∧ b < w.heap.size ∧ ∀ (j : Nat) u, (f i).cs[j]? = some u → w.cell? ⟨b, off + (i * 10 + j), none⟩ = some u

theorem nCellsAsk : Tryd.prog.cellsOf 68 = 10 := by kernel_rfl
section
variable {H : Type} {enc : TypeId × Value → H} {W : World}
set_option maxRecDepth 100000 in
theorem ev_cells {n : Nat} {cs : List Value} {x : DataW H × List MemPlace} (hsz : cs.length = 6) (h : DataW.trod enc Tryd.prog W 0 (fun _ => true) true n 24 cs = some x) : ∃ e : Ev, cs = e.cs := by
  obtain ⟨xs, n, _, _, hl, hxl, hfld⟩ := DataW.trod_struct Tryd.underlying24 h
  have hxl : xs.length = 6 := hxl
  have one : ∀ (j : Nat) (f : Field) (K : IntKind), j < 6 → Tryd.prog.underlying f.type = some (.int K) → Tryd.prog.cellsOf f.type = 1 → f.offset = j → DataW.trod enc Tryd.prog W 0 (fun _ => true) true n f.type ((cs.drop f.offset).take (Tryd.prog.cellsOf f.type)) = xs[j]? →
      ∃ z : Int, (cs.drop j).take 1 = [.int K z] := fun j f K hj9 ht hc ho h => by
    rw [ho, hc, List.getElem?_eq_getElem (show j < xs.length by omega)] at h
    obtain ⟨z, e0, _, _⟩ := DataW.trod_int ht h
    exact ⟨z, e0⟩
  obtain ⟨z0, e0⟩ := one 0 _ .i64 (by omega) Tryd.underlying3 nCellsI1 rfl (hfld 0 _ rfl)
  obtain ⟨z1, e1⟩ := one 1 _ .i64 (by omega) Tryd.underlying3 nCellsI1 rfl (hfld 1 _ rfl)
  obtain ⟨z2, e2⟩ := one 2 _ .i64 (by omega) Tryd.underlying3 nCellsI1 rfl (hfld 2 _ rfl)
  obtain ⟨z3, e3⟩ := one 3 _ .u32 (by omega) Tryd.underlying22 nCellsU1 rfl (hfld 3 _ rfl)
  obtain ⟨z4, e4⟩ := one 4 _ .u32 (by omega) Tryd.underlying22 nCellsU1 rfl (hfld 4 _ rfl)
  have h5 : DataW.trod enc Tryd.prog W 0 (fun _ => true) true n 4 ((cs.drop 5).take (Tryd.prog.cellsOf 4)) = xs[5]? := hfld 5 _ rfl
  rw [nCellsB1, List.getElem?_eq_getElem (show 5 < xs.length by omega)] at h5
  obtain ⟨z5, e5, _⟩ := DataW.trod_bool Tryd.underlying4 h5
  clear one hfld hl h h5
  match cs, hsz with
  | [a0, a1, a2, a3, a4, a5], _ =>
    simp only [List.drop_zero, List.drop_succ_cons, List.take_succ_cons, List.take_zero, List.cons.injEq, and_true] at e0 e1 e2 e3 e4 e5
    subst e0 e1 e2 e3 e4 e5
    exact ⟨⟨z0, z1, z2, z3, z4, z5⟩, rfl⟩
set_option maxRecDepth 100000 in
theorem ask_cells {n : Nat} {cs : List Value} {x : DataW H × List MemPlace} (hsz : cs.length = 10) (h : DataW.trod enc Tryd.prog W 0 (fun _ => true) true n 68 cs = some x) : ∃ e : Ask10, cs = e.cs := by
  obtain ⟨xs, n, _, _, hl, hxl, hfld⟩ := DataW.trod_struct Tryd.underlying68 h
  have hxl : xs.length = 5 := hxl
  have one : ∀ (j : Nat) (f : Field) (K : IntKind), j < 5 → Tryd.prog.underlying f.type = some (.int K) → Tryd.prog.cellsOf f.type = 1 → f.offset = j → DataW.trod enc Tryd.prog W 0 (fun _ => true) true n f.type ((cs.drop f.offset).take (Tryd.prog.cellsOf f.type)) = xs[j]? →
      ∃ z : Int, (cs.drop j).take 1 = [.int K z] := fun j f K hj9 ht hc ho h => by
    rw [ho, hc, List.getElem?_eq_getElem (show j < xs.length by omega)] at h
    obtain ⟨z, e0, _, _⟩ := DataW.trod_int ht h
    exact ⟨z, e0⟩
  obtain ⟨z0, e0⟩ := one 0 _ .i64 (by omega) Tryd.underlying3 nCellsI1 rfl (hfld 0 _ rfl)
  obtain ⟨z1, e1⟩ := one 1 _ .i64 (by omega) Tryd.underlying3 nCellsI1 rfl (hfld 1 _ rfl)
  obtain ⟨z2, e2⟩ := one 2 _ .i64 (by omega) Tryd.underlying3 nCellsI1 rfl (hfld 2 _ rfl)
  have h3 : DataW.trod enc Tryd.prog W 0 (fun _ => true) true n 24 ((cs.drop 3).take (Tryd.prog.cellsOf 24)) = xs[3]? := hfld 3 _ rfl
  rw [nCellsEv, List.getElem?_eq_getElem (show 3 < xs.length by omega)] at h3
  obtain ⟨e, e3⟩ := ev_cells (by rw [List.length_take, List.length_drop]; omega) h3
  have h4 : DataW.trod enc Tryd.prog W 0 (fun _ => true) true n 4 ((cs.drop 9).take (Tryd.prog.cellsOf 4)) = xs[4]? := hfld 4 _ rfl
  rw [nCellsB1, List.getElem?_eq_getElem (show 4 < xs.length by omega)] at h4
  obtain ⟨z4, e4, _⟩ := DataW.trod_bool Tryd.underlying4 h4
  clear one hfld hl h h3 h4
  match cs, hsz with
  | [a0, a1, a2, a3, a4, a5, a6, a7, a8, a9], _ =>
    obtain ⟨k0, k1, k2, k3, k4, k5⟩ := e
    simp only [Ev.cs, List.drop_zero, List.drop_succ_cons, List.take_succ_cons, List.take_zero, List.cons.injEq, and_true] at e0 e1 e2 e3 e4
    obtain ⟨rfl, rfl, rfl, rfl, rfl, rfl⟩ := e3
    subst e0 e1 e2 e4
    exact ⟨⟨z0, z1, z2, ⟨k0, k1, k2, k3, k4, k5⟩, z4⟩, rfl⟩
end

set_option maxRecDepth 100000 in
theorem asks10_of_trod {H : Type} {enc : TypeId × Value → H} {W : World} {base : Nat} {v : Value} {d : DataW H} {p : List MemPlace} (hv : Value.okWide Tryd.prog W .any base 66 v) (hj : DataW.Trod enc Tryd.prog W 0 (fun _ => true) true 66 v d p)
    (_hlt : ∀ x ∈ p, x.block < W.heap.size) : ∃ n f, Asks10 W v n f := by
  obtain ⟨a0, len, cap, rfl⟩ := okWide_slice Tryd.underlying66 hv
  obtain ⟨fuel, hf⟩ := hj
  rcases open_slice Tryd.underlying66 hf with ⟨hcs, _⟩ | ⟨a, len', cap', q, nn, D, Pl, hcs, _, hl, hm, hmm, hx, hi⟩
  · simp only [Value.cells, List.cons.injEq, and_true] at hcs
    rw [hcs]
    exact ⟨0, fun _ => ⟨0, 0, 0, ⟨0, 0, 0, 0, 0, false⟩, false⟩, by omega, none, 0, rfl, fun i hi => by omega⟩
  · simp only [Value.cells, List.cons.injEq, and_true] at hcs
    rw [hcs]
    simp only [if_true] at hmm
    subst hmm
    have hask : ∀ i, i < len' → ∃ e : Ask10, ∀ (j : Nat) u, e.cs[j]? = some u → W.cell? (a.add (i * 10 + j)) = some u := fun i hil => by
      obtain ⟨cs', hc, ht⟩ := hi i (by omega)
      obtain ⟨_, hcl, hat⟩ := World.cells?_some hc
      rw [nCellsAsk] at hcl hat
      obtain ⟨e, rfl⟩ := ask_cells hcl ht
      refine ⟨e, fun j u hu => ?_⟩
      have hj : j < 10 := by
        have := (List.getElem?_eq_some_iff.1 hu).1
        simpa [Ask10.cs] using this
      rw [← Go.Deep.add_add, hat j hj, hu]
    by_cases h0 : len' = 0
    · subst h0
      exact ⟨0, fun _ => ⟨0, 0, 0, ⟨0, 0, 0, 0, 0, false⟩, false⟩, by omega, some a, q, rfl, fun i hi => by omega⟩
    · obtain ⟨e0, h00⟩ := hask 0 (by omega)
      have hc0 := h00 0 _ rfl
      obtain ⟨b, off, sp⟩ := a
      have hsp : sp = none := spot_none (a := Addr.add ⟨b, off, sp⟩ (0 * 10 + 0)) hc0
      subst hsp
      have hb := World.block_lt_of_cell? _ _ hc0
      refine ⟨len', fun i => if h : i < len' then (hask i h).choose else ⟨0, 0, 0, ⟨0, 0, 0, 0, 0, false⟩, false⟩, by omega, some ⟨b, off, none⟩, q, rfl, fun i hil => ⟨b, off, rfl, hb, fun j u hu => ?_⟩⟩
      simp only [dif_pos hil] at hu
      have := (hask i hil).choose_spec j u hu
      rw [Addr.add_lit] at this
      exact this

end Go.Proofs.YtamklohnmbgklaaDoor
