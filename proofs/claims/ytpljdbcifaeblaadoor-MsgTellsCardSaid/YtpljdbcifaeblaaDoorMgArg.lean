/- A message that comes as an argument. -/
import Derived.Test.YtpljdbcifaeblaaDoorOpen
import Derived.Test.YtpljdbcifaeblaaDoorOpArg
import Derived.Test.YtpljdbcifaeblaaDoorMgP
import Derived.OpenShut
namespace Go.Proofs.YtpljdbcifaeblaaDoor
open Go.ChangeShapes Go.WideShapes Go.Deep Go.RowKit

theorem nCellsMsg : Tryd.prog.cellsOf 54 = 13 := by kernel_rfl
theorem nCellsLine : Tryd.prog.cellsOf 52 = 4 := by kernel_rfl
theorem nCellsB1 : Tryd.prog.cellsOf 4 = 1 := by kernel_rfl
set_option maxRecDepth 100000 in
theorem line_cells {H : Type} {enc : TypeId × Value → H} {W : World} {n : Nat} {cs : List Value} {x : DataW H × List MemPlace} (h : DataW.trod enc Tryd.prog W 0 (fun _ => true) true n 52 cs = some x) : ∃ a b c d : Int, cs = [.int .u32 a, .int .u32 b, .int .u32 c, .int .u32 d] ∧ in32 a ∧ in32 b ∧ in32 c ∧ in32 d := by
  obtain ⟨xs, m, _, _, hl, hxl, hel⟩ := DataW.trod_array Tryd.underlying52 h
  rw [nCellsLine] at hl
  have one : ∀ j, j < 4 → ∃ z : Int, (cs.drop j).take 1 = [.int .u32 z] ∧ in32 z := fun j hj => by
    have h := hel j hj
    rw [nCellsU1, Nat.mul_one, List.getElem?_eq_getElem (show j < xs.length by omega)] at h
    obtain ⟨z, e0, _, b0⟩ := DataW.trod_int Tryd.underlying27 h
    exact ⟨z, e0, bounds_u32 b0⟩
  obtain ⟨a, e0, b0⟩ := one 0 (by omega)
  obtain ⟨b, e1, b1⟩ := one 1 (by omega)
  obtain ⟨c, e2, b2⟩ := one 2 (by omega)
  obtain ⟨d, e3, b3⟩ := one 3 (by omega)
  clear one hel h
  match cs, hl with
  | [a0, a1, a2, a3], _ =>
    simp only [List.drop_zero, List.drop_succ_cons, List.take_succ_cons, List.take_zero, List.cons.injEq, and_true] at e0 e1 e2 e3
    subst e0 e1 e2 e3
    exact ⟨a, b, c, d, rfl, b0, b1, b2, b3⟩
set_option maxRecDepth 100000 in
theorem open_msg {H : Type} {enc : TypeId × Value → H} {W : World} {base : Nat} {v : Value} {d : DataW H} {p : List MemPlace} (hv : Value.okWide Tryd.prog W .any base 54 v)
    (hj : DataW.Trod enc Tryd.prog W 0 (fun _ => true) true 54 v d p) : ∃ e : MsgV, v = e.v ∧ e.fit := by
  obtain ⟨cs, rfl, hsz⟩ := okWide_struct Tryd.underlying54 hv
  rw [nCellsMsg] at hsz
  obtain ⟨fuel, hf⟩ := hj
  obtain ⟨xs, n, _, _, hl, hxl, hfld⟩ := DataW.trod_struct Tryd.underlying54 hf
  have hxl : xs.length = 10 := hxl
  have one : ∀ (j : Nat) (f : Field) (K : IntKind), j < 10 → Tryd.prog.underlying f.type = some (.int K) → Tryd.prog.cellsOf f.type = 1 → f.offset = j → DataW.trod enc Tryd.prog W 0 (fun _ => true) true n f.type ((cs.toList.drop f.offset).take (Tryd.prog.cellsOf f.type)) = xs[j]? →
      ∃ z : Int, (cs.toList.drop j).take 1 = [.int K z] ∧ (Lit.int K z).wf = true := fun j f K hj9 ht hc ho h => by
    rw [ho, hc, List.getElem?_eq_getElem (show j < xs.length by omega)] at h
    obtain ⟨z, e0, _, b0⟩ := DataW.trod_int ht h
    exact ⟨z, e0, b0⟩
  obtain ⟨z0, e0, b0⟩ := one 0 _ .i64 (by omega) Tryd.underlying3 nCellsI1 rfl (hfld 0 _ rfl)
  obtain ⟨z1, e1, b1⟩ := one 1 _ .i64 (by omega) Tryd.underlying3 nCellsI1 rfl (hfld 1 _ rfl)
  obtain ⟨z2, e2, b2⟩ := one 2 _ .i64 (by omega) Tryd.underlying3 nCellsI1 rfl (hfld 2 _ rfl)
  obtain ⟨z3, e3, b3⟩ := one 3 _ .i64 (by omega) Tryd.underlying3 nCellsI1 rfl (hfld 3 _ rfl)
  obtain ⟨z4, e4, b4⟩ := one 4 _ .i64 (by omega) Tryd.underlying3 nCellsI1 rfl (hfld 4 _ rfl)
  obtain ⟨z5, e5, b5⟩ := one 5 _ .i64 (by omega) Tryd.underlying3 nCellsI1 rfl (hfld 5 _ rfl)
  obtain ⟨z6, e6, b6⟩ := one 6 _ .i64 (by omega) Tryd.underlying3 nCellsI1 rfl (hfld 6 _ rfl)
  obtain ⟨z7, e7, b7⟩ := one 7 _ .u32 (by omega) Tryd.underlying27 nCellsU1 rfl (hfld 7 _ rfl)
  have h8 : DataW.trod enc Tryd.prog W 0 (fun _ => true) true n 52 ((cs.toList.drop 8).take (Tryd.prog.cellsOf 52)) = xs[8]? := hfld 8 _ rfl
  rw [nCellsLine, List.getElem?_eq_getElem (show 8 < xs.length by omega)] at h8
  obtain ⟨d0, d1, d2, d3, e8, c0, c1, c2, c3⟩ := line_cells h8
  have h9 : DataW.trod enc Tryd.prog W 0 (fun _ => true) true n 4 ((cs.toList.drop 12).take (Tryd.prog.cellsOf 4)) = xs[9]? := hfld 9 _ rfl
  rw [nCellsB1, List.getElem?_eq_getElem (show 9 < xs.length by omega)] at h9
  obtain ⟨z9, e9, _⟩ := DataW.trod_bool Tryd.underlying4 h9
  clear one hfld hf hl hv h8 h9
  obtain ⟨l⟩ := cs
  match l, hsz with
  | [a0, a1, a2, a3, a4, a5, a6, a7, a8, a9, a10, a11, a12], _ =>
    simp only [List.drop_zero, List.drop_succ_cons, List.take_succ_cons, List.take_zero, List.cons.injEq, and_true] at e0 e1 e2 e3 e4 e5 e6 e7 e8 e9
    obtain ⟨rfl, rfl, rfl, rfl⟩ := e8
    subst e0 e1 e2 e3 e4 e5 e6 e7 e9
    exact ⟨⟨z0, z1, z2, z3, z4, z5, z6, z7, d0, d1, d2, d3, z9⟩, rfl, ⟨Go.bounds_i64 b0, Go.bounds_i64 b1, Go.bounds_i64 b2, Go.bounds_i64 b3, Go.bounds_i64 b4, Go.bounds_i64 b5, Go.bounds_i64 b6, bounds_u32 b7, c0, c1, c2, c3⟩⟩

end Go.Proofs.YtpljdbcifaeblaaDoor
