/- A configuration that comes as an argument: nine numbers. -/
import Derived.Test.YtaecihljgbjmcaaDoorGeo2
import Derived.Deep.Fields
import Derived.ChangeSame
import Derived.ProofKit
namespace Go.Proofs.YtaecihljgbjmcaaDoor
open Go.ChangeShapes Go.WideShapes Go.Deep Go.RowKit

theorem nCellsCfg : Tryd.prog.cellsOf 42 = 9 := by kernel_rfl
theorem nCellsInt : Tryd.prog.cellsOf 3 = 1 := by kernel_rfl

set_option maxRecDepth 100000 in
theorem open_cfg {H : Type} {enc : TypeId × Value → H} {W : World} {base : Nat} {v : Value} {d : DataW H} {p : List MemPlace} (hv : Value.okWide Tryd.prog W .any base 42 v)
    (hj : DataW.Trod enc Tryd.prog W 0 (fun _ => true) true 42 v d p) : ∃ g : Nat → Int, v = cfgV g ∧ ∀ j, j < 9 → -9223372036854775808 ≤ g j ∧ g j ≤ 9223372036854775807 := by
  obtain ⟨cs, rfl, hsz⟩ := okWide_struct Tryd.underlying42 hv
  rw [nCellsCfg] at hsz
  obtain ⟨fuel, hf⟩ := hj
  obtain ⟨xs, n, _, _, hl, hxl, hfld⟩ := DataW.trod_struct Tryd.underlying42 hf
  have hxl : xs.length = 9 := hxl
  have one : ∀ (j : Nat) (f : Field), j < 9 → f.type = 3 → f.offset = j → DataW.trod enc Tryd.prog W 0 (fun _ => true) true n f.type ((cs.toList.drop f.offset).take (Tryd.prog.cellsOf f.type)) = xs[j]? →
      ∃ z : Int, (cs.toList.drop j).take 1 = [.int .i64 z] ∧ (Lit.int .i64 z).wf = true := fun j f hj9 ht ho h => by
    rw [ht, ho, nCellsInt, List.getElem?_eq_getElem (show j < xs.length by omega)] at h
    obtain ⟨z, e0, _, wz⟩ := DataW.trod_int Tryd.underlying3 h
    exact ⟨z, e0, wz⟩
  obtain ⟨z0, e0, w0⟩ := one 0 _ (by omega) rfl rfl (hfld 0 _ rfl)
  obtain ⟨z1, e1, w1⟩ := one 1 _ (by omega) rfl rfl (hfld 1 _ rfl)
  obtain ⟨z2, e2, w2⟩ := one 2 _ (by omega) rfl rfl (hfld 2 _ rfl)
  obtain ⟨z3, e3, w3⟩ := one 3 _ (by omega) rfl rfl (hfld 3 _ rfl)
  obtain ⟨z4, e4, w4⟩ := one 4 _ (by omega) rfl rfl (hfld 4 _ rfl)
  obtain ⟨z5, e5, w5⟩ := one 5 _ (by omega) rfl rfl (hfld 5 _ rfl)
  obtain ⟨z6, e6, w6⟩ := one 6 _ (by omega) rfl rfl (hfld 6 _ rfl)
  obtain ⟨z7, e7, w7⟩ := one 7 _ (by omega) rfl rfl (hfld 7 _ rfl)
  obtain ⟨z8, e8, w8⟩ := one 8 _ (by omega) rfl rfl (hfld 8 _ rfl)
  clear one hfld hf hl hv
  obtain ⟨l⟩ := cs
  match l, hsz with
  | [a0, a1, a2, a3, a4, a5, a6, a7, a8], _ =>
    simp only [List.drop_zero, List.drop_succ_cons, List.take_succ_cons, List.take_zero, List.cons.injEq, and_true] at e0 e1 e2 e3 e4 e5 e6 e7 e8
    subst e0 e1 e2 e3 e4 e5 e6 e7 e8
    refine ⟨fun | 0 => z0 | 1 => z1 | 2 => z2 | 3 => z3 | 4 => z4 | 5 => z5 | 6 => z6 | 7 => z7 | _ => z8, rfl, fun j hj => ?_⟩
    match j, hj with
    | 0, _ => exact Go.bounds_i64 w0
    | 1, _ => exact Go.bounds_i64 w1
    | 2, _ => exact Go.bounds_i64 w2
    | 3, _ => exact Go.bounds_i64 w3
    | 4, _ => exact Go.bounds_i64 w4
    | 5, _ => exact Go.bounds_i64 w5
    | 6, _ => exact Go.bounds_i64 w6
    | 7, _ => exact Go.bounds_i64 w7
    | 8, _ => exact Go.bounds_i64 w8

end Go.Proofs.YtaecihljgbjmcaaDoor
