/- assentbook.Same at operations: rows that are the same. -/
import Derived.Test.YtpljdbcifaeblaaDoorPg5
import Derived.Test.YtpljdbcifaeblaaDoorLex
namespace Go.Proofs.YtpljdbcifaeblaaDoor
open Go.RowKit Go.Extern.Stop Go.Stop Go.Extern

set_option maxRecDepth 100000 in
set_option maxHeartbeats 2000000 in
theorem sameO_c (l : List OpV) (v u : Value) (w : World) (hv : slc w 4 v l.length (flatP l)) (hu : slc w 4 u l.length (flatP l)) (hl : l.length ≤ 100000) :
    Calls Tryd.prog 28 #[v, u] w fun ev w' => ev = .returned (.bool true) ∧ Below w.heap.size w w' := by
  obtain ⟨_, a1, c1, rfl, hv⟩ := hv
  obtain ⟨_, a2, c2, rfl, hu⟩ := hu
  have HV := Lib.hid hv
  have HU := Lib.hid hu
  clear hv hu
  go_enter Tryd.func28, Tryd.ntmps28
  go_wp2_with fail
  go_loopw [5] (fun i wr => ∃ k : Nat, k ≤ l.length ∧ i = .int .i64 k ∧ Below w.heap.size w wr) (fun i _ => l.length - (intOf i).toNat)
  case atStart => exact ⟨0, by omega, rfl, Below.refl _ _⟩
  case round =>
    obtain ⟨k, hk, rfl, hB⟩ := hrel
    by_cases hkl : k < l.length
    · obtain ⟨g1, o1, rfl, hg1, hc1⟩ := HV.out (by omega)
      obtain ⟨g2, o2, rfl, hg2, hc2⟩ := HU.out (by omega)
      obtain ⟨e, he⟩ : ∃ e, l[k]? = some e := ⟨_, List.getElem?_eq_getElem hkl⟩
      have e0 := (hB.cell (p := ⟨g1, o1 + (k * 4 + 0), none⟩) hg1).trans (hc1 _ _ (flatP_at he (c := 0) rfl))
      have e1 := (hB.cell (p := ⟨g1, o1 + (k * 4 + 1), none⟩) hg1).trans (hc1 _ _ (flatP_at he (c := 1) rfl))
      have e2 := (hB.cell (p := ⟨g1, o1 + (k * 4 + 2), none⟩) hg1).trans (hc1 _ _ (flatP_at he (c := 2) rfl))
      have e3 := (hB.cell (p := ⟨g1, o1 + (k * 4 + 3), none⟩) hg1).trans (hc1 _ _ (flatP_at he (c := 3) rfl))
      have d0 := (hB.cell (p := ⟨g2, o2 + (k * 4 + 0), none⟩) hg2).trans (hc2 _ _ (flatP_at he (c := 0) rfl))
      have d1 := (hB.cell (p := ⟨g2, o2 + (k * 4 + 1), none⟩) hg2).trans (hc2 _ _ (flatP_at he (c := 1) rfl))
      have d2 := (hB.cell (p := ⟨g2, o2 + (k * 4 + 2), none⟩) hg2).trans (hc2 _ _ (flatP_at he (c := 2) rfl))
      have d3 := (hB.cell (p := ⟨g2, o2 + (k * 4 + 3), none⟩) hg2).trans (hc2 _ _ (flatP_at he (c := 3) rfl))
      obtain ⟨kd, ad, va, ol⟩ := e
      simp only [Nat.add_zero, ← Nat.add_assoc] at e0 e1 e2 e3 d0 d1 d2 d3
      have b1 := World.block_lt_of_cell? _ _ e0
      have b2 := World.block_lt_of_cell? _ _ d0
      simp only at b1 b2
      have HB := Lib.hid hB
      clear hc1 hc2 hg1 hg2 hB he
      go_wp2_with fail
      refine wp_region_lexA ⟨[], []⟩ (fun x => Below wr.heap.size wr x) (by kernel_rfl) (by kernel_rfl) (Below.refl _ _).drew ?_
      intro S hto hof hne
      have x0 : ∀ z : Wd S, z.w.cell? ⟨g1, o1 + k * 4, none⟩ = some (.int .i64 kd) := fun z => ((hto z).cell (p := ⟨g1, o1 + k * 4, none⟩) b1).trans e0
      have x1 : ∀ z : Wd S, z.w.cell? ⟨g1, o1 + k * 4 + 1, none⟩ = some (.int .i64 ad) := fun z => ((hto z).cell (p := ⟨g1, o1 + k * 4 + 1, none⟩) b1).trans e1
      have x2 : ∀ z : Wd S, z.w.cell? ⟨g1, o1 + k * 4 + 2, none⟩ = some (.int .u32 va) := fun z => ((hto z).cell (p := ⟨g1, o1 + k * 4 + 2, none⟩) b1).trans e2
      have x3 : ∀ z : Wd S, z.w.cell? ⟨g1, o1 + k * 4 + 3, none⟩ = some (.int .u32 ol) := fun z => ((hto z).cell (p := ⟨g1, o1 + k * 4 + 3, none⟩) b1).trans e3
      have y0 : ∀ z : Wd S, z.w.cell? ⟨g2, o2 + k * 4, none⟩ = some (.int .i64 kd) := fun z => ((hto z).cell (p := ⟨g2, o2 + k * 4, none⟩) b2).trans d0
      have y1 : ∀ z : Wd S, z.w.cell? ⟨g2, o2 + k * 4 + 1, none⟩ = some (.int .i64 ad) := fun z => ((hto z).cell (p := ⟨g2, o2 + k * 4 + 1, none⟩) b2).trans d1
      have y2 : ∀ z : Wd S, z.w.cell? ⟨g2, o2 + k * 4 + 2, none⟩ = some (.int .u32 va) := fun z => ((hto z).cell (p := ⟨g2, o2 + k * 4 + 2, none⟩) b2).trans d2
      have y3 : ∀ z : Wd S, z.w.cell? ⟨g2, o2 + k * 4 + 3, none⟩ = some (.int .u32 ol) := fun z => ((hto z).cell (p := ⟨g2, o2 + k * 4 + 3, none⟩) b2).trans d3
      have Hof := Lib.hid hof
      clear hto hof e0 e1 e2 e3 d0 d1 d2 d3
      refine lexW_light 9 (by kernel_rfl) ?_
      simp only [List.take_succ_cons, List.take_zero, List.drop_succ_cons, List.drop_zero]
      repeat (first | go_big_quiet_skip | (go_big_quiet_want; go_big_quiet_op; go_big_quiet_on))
      refine wpQuiet_nil ?_
      refine lexW_done ?_
      clear x0 x1 x2 x3 y0 y1 y2 y3
      go_wp2_with fail
      go_roundw
      case rel => exact ⟨k + 1, by omega, by go_num, HB.out.drew⟩
      case measure => simp [intOf]; omega
    · have hk' : k = l.length := by omega
      subst hk'
      go_wp2_with fail
      go_ret
      exact ⟨rfl, hB⟩

end Go.Proofs.YtpljdbcifaeblaaDoor
