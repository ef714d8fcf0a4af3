/- assentbook.Same at stores: a row is the same as itself. -/
import Derived.Test.YteljpfbfkpdchaaDoorBuf3
namespace Go.Proofs.YteljpfbfkpdchaaDoor
open Go.RowKit Go.Extern.Stop Go.Stop Go.Extern

/-- The first elements of a slice. -/
theorem slc.take {w : World} {a : Option Addr} {cap : Nat} {l r : List (Int × Int)} (h : slc w 2 (.slice a (l ++ r).length cap) (l ++ r).length (flatW (l ++ r))) : slc w 2 (.slice a l.length cap) l.length (flatW l) := by
  obtain ⟨_, a', cap', hv, hc⟩ := h
  simp only [Value.slice.injEq] at hv
  obtain ⟨rfl, _, rfl⟩ := hv
  refine ⟨flatW_length l, a, cap, rfl, fun hp => ?_⟩
  obtain ⟨g, off, ha, hg, hcc⟩ := hc (by simp; omega)
  refine ⟨g, off, ha, hg, fun j u hj => hcc j u ?_⟩
  rw [flatW_append, List.getElem?_append_left (List.getElem?_eq_some_iff.1 hj).1]
  exact hj

set_option maxRecDepth 100000 in
set_option maxHeartbeats 2000000 in
theorem sameW_c (l : List (Int × Int)) (v u : Value) (w : World) (hv : slc w 2 v l.length (flatW l)) (hu : slc w 2 u l.length (flatW l)) (hl : l.length ≤ 1000) :
    Calls Tryd.prog 28 #[v, u] w fun ev w' => ev = .returned (.bool true) ∧ Below w.heap.size w w' := by
  obtain ⟨_, a1, c1, rfl, hv⟩ := hv
  obtain ⟨_, a2, c2, rfl, hu⟩ := hu
  have HV := Lib.hid hv
  have HU := Lib.hid hu
  clear hv hu
  go_enter Tryd.func28, Tryd.ntmps28
  go_wp2_with fail
  go_loopw [5] (fun i wr => ∃ k : Nat, k ≤ l.length ∧ i = .int .i64 k ∧ Below w.heap.size w wr) (fun i _ => l.length - (intOf i).toNat)
  case atStart => exact ⟨0, by omega, rfl, Below.refl _ _⟩
  case round =>
    obtain ⟨k, hk, rfl, hB⟩ := hrel
    by_cases hkl : k < l.length
    · obtain ⟨g1, o1, rfl, hg1, hc1⟩ := HV.out (by omega)
      obtain ⟨g2, o2, rfl, hg2, hc2⟩ := HU.out (by omega)
      have hfl := flatW_at (List.getElem?_eq_getElem hkl)
      generalize l[k] = y at hfl
      obtain ⟨y1, y2⟩ := y
      have e1 := (hB.cell (p := ⟨g1, _, none⟩) hg1).trans (hc1 _ _ hfl.1)
      have e2 := (hB.cell (p := ⟨g1, _, none⟩) hg1).trans (hc1 _ _ hfl.2)
      have e3 := (hB.cell (p := ⟨g2, _, none⟩) hg2).trans (hc2 _ _ hfl.1)
      have e4 := (hB.cell (p := ⟨g2, _, none⟩) hg2).trans (hc2 _ _ hfl.2)
      have b1 := World.block_lt_of_cell? _ _ e1
      have b2 := World.block_lt_of_cell? _ _ e3
      rw [Nat.mul_comm 2 k] at e1 e2 e3 e4
      rw [← Nat.add_assoc] at e2 e4
      simp only at e1 e2 e3 e4 b1 b2
      have HB := Lib.hid hB
      have hsz := hB.size
      clear hc1 hc2 hg1 hg2 hB hfl
      go_wp2_with fail
      refine wp_region_lexA ⟨[], []⟩ (fun x => Below wr.heap.size wr x) (by kernel_rfl) (by kernel_rfl) (Below.refl _ _).drew ?_
      intro S hto hof hne
      have x1 : ∀ z : Wd S, z.w.cell? ⟨g1, o1 + k * 2, none⟩ = some (.int .i64 y1) := fun z => ((hto z).cell (p := ⟨g1, _, none⟩) b1).trans e1
      have x2 : ∀ z : Wd S, z.w.cell? ⟨g1, o1 + k * 2 + 1, none⟩ = some (.int .u32 y2) := fun z => ((hto z).cell (p := ⟨g1, _, none⟩) b1).trans e2
      have x3 : ∀ z : Wd S, z.w.cell? ⟨g2, o2 + k * 2, none⟩ = some (.int .i64 y1) := fun z => ((hto z).cell (p := ⟨g2, _, none⟩) b2).trans e3
      have x4 : ∀ z : Wd S, z.w.cell? ⟨g2, o2 + k * 2 + 1, none⟩ = some (.int .u32 y2) := fun z => ((hto z).cell (p := ⟨g2, _, none⟩) b2).trans e4
      have Hof := Lib.hid hof
      clear hto hof e1 e2 e3 e4
      refine lexW_light 9 (by kernel_rfl) ?_
      simp only [List.take_succ_cons, List.take_zero, List.drop_succ_cons, List.drop_zero]
      repeat (first | go_big_quiet_skip | (go_big_quiet_want; go_big_quiet_op; go_big_quiet_on))
      refine wpQuiet_nil ?_
      refine lexW_done ?_
      go_wp2_with fail
      go_roundw
      case rel => exact ⟨k + 1, by omega, by go_num, HB.out.drew⟩
      case measure => simp [intOf]; omega
    · have hk' : k = l.length := by omega
      subst hk'
      go_wp2_with fail
      go_ret
      exact ⟨rfl, hB⟩

end Go.Proofs.YteljpfbfkpdchaaDoor
