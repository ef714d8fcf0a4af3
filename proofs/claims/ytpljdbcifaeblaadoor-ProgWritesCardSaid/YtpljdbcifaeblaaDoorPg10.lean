/- assentbook.Intact at operations. -/
import Derived.Test.YtpljdbcifaeblaaDoorPg6
import Derived.Test.YtpljdbcifaeblaaDoorPg9
namespace Go.Proofs.YtpljdbcifaeblaaDoor
open Go.RowKit Go.Extern.Stop Go.Stop Go.Extern

set_option maxRecDepth 100000 in
set_option maxHeartbeats 4000000 in
theorem intactO_c (v u : Value) (l : List OpV) (m : OpV) (base : Nat) (w : World) (hv : winRow w base 29 4 v (l.length + 80) (flatP (l ++ List.replicate 80 m))) (hu : slc w 4 u l.length (flatP l)) (hbig : l.length ≤ 100000) :
    Calls Tryd.prog 24 #[v, u, m.v] w fun ev w' => ev = .returned (.bool true) ∧ Below w.heap.size w w' := by
  obtain ⟨g, off, cap, rfl, hcap, hbg, hg, hc⟩ := hv.form (by omega)
  have HC := Lib.hid hc
  have HU := Lib.hid hu
  obtain ⟨_, ad0, cap0, rfl, _⟩ := hu
  have hsl : slc w 4 (.slice (some ⟨g, off, none⟩) l.length cap) l.length (flatP l) := ⟨by rw [flatP_length], _, cap, rfl, fun _ => ⟨g, off, rfl, hg, fun j x hj => hc j x (by
    rw [flatP_append, List.getElem?_append_left (List.getElem?_eq_some_iff.1 hj).1]
    exact hj)⟩⟩
  obtain ⟨kd, ad, va, ol⟩ := m
  simp only [OpV.v]
  have hX := heap_alloc_new w (.cells #[.int .i64 kd, .int .i64 ad, .int .u32 va, .int .u32 ol] 29)
  have hb0 : Below w.heap.size w (w.alloc (.cells #[.int .i64 kd, .int .i64 ad, .int .u32 va, .int .u32 ol] 29)) := (Below.refl _ _).alloc (Nat.le_refl _) _
  have HX := Lib.hid hX
  have HB0 := Lib.hid hb0
  have HSL := Lib.hid hsl
  have g0 : l.length ≤ cap := by omega
  clear hv hsl hc hX hb0
  go_enter Tryd.func24, Tryd.ntmps24
  go_wp2_with fail
  refine (sameO_c l _ _ _ (HSL.out.below HB0.out) (HU.out.below HB0.out) hbig).mono ?_
  rintro ev w1 ⟨rfl, hB1⟩
  have HB1 := Lib.hid (HB0.out.trans (hB1.mono HB0.out.size))
  have HX1 := Lib.hid ((hB1.block w.heap.size (by simp)).trans HX.out)
  clear hB1
  go_wp2_with fail
  go_loopw [7] (fun s7 wr => ∃ j : Nat, j ≤ 80 ∧ s7 = .int .i64 ((l.length + j : Nat) : Int) ∧ Below w1.heap.size w1 wr) (fun s7 _ => l.length + 80 - (intOf s7).toNat)
  case atStart => exact ⟨0, by omega, rfl, Below.refl _ _⟩
  case round =>
    obtain ⟨j, hj, rfl, hB⟩ := hrel
    have HB := Lib.hid hB
    by_cases hj80 : j < 80
    · have g1 : decide (((l.length + j : Nat) : Int) < (l.length : Int) + 80) = true := by simp; omega
      have g2 : l.length + j < l.length + 80 := by omega
      have HBW := Lib.hid (HB1.out.trans (hB.mono HB1.out.size))
      have he : (l ++ List.replicate 80 (⟨kd, ad, va, ol⟩ : OpV))[l.length + j]? = some ⟨kd, ad, va, ol⟩ := by
        rw [List.getElem?_append_right (by omega), Nat.add_sub_cancel_left, List.getElem?_replicate, if_pos hj80]
      have e0 := (HBW.out.cell (p := ⟨g, off + ((l.length + j) * 4 + 0), none⟩) hg).trans (HC.out _ _ (flatP_at he (c := 0) rfl))
      have e1 := (HBW.out.cell (p := ⟨g, off + ((l.length + j) * 4 + 1), none⟩) hg).trans (HC.out _ _ (flatP_at he (c := 1) rfl))
      have e2 := (HBW.out.cell (p := ⟨g, off + ((l.length + j) * 4 + 2), none⟩) hg).trans (HC.out _ _ (flatP_at he (c := 2) rfl))
      have e3 := (HBW.out.cell (p := ⟨g, off + ((l.length + j) * 4 + 3), none⟩) hg).trans (HC.out _ _ (flatP_at he (c := 3) rfl))
      have HX2 := Lib.hid ((hB.block w.heap.size (Array.getElem?_eq_some_iff.1 HX1.out).1).trans HX1.out)
      simp only [Nat.add_zero, ← Nat.add_assoc] at e0 e1 e2 e3
      have b1 := World.block_lt_of_cell? _ _ e0
      have b2 := (Array.getElem?_eq_some_iff.1 HX2.out).1
      simp only at b1
      clear hB he
      go_wp2_with fail
      refine wp_region_lexA ⟨[], []⟩ (fun x => Below wr.heap.size wr x) (by kernel_rfl) (by kernel_rfl) (Below.refl _ _).drew ?_
      intro S hto hof hne
      have x0 : ∀ z : Wd S, z.w.cell? ⟨g, off + (l.length + j) * 4, none⟩ = some (.int .i64 kd) := fun z => ((hto z).cell (p := ⟨g, off + (l.length + j) * 4, none⟩) b1).trans e0
      have x1 : ∀ z : Wd S, z.w.cell? ⟨g, off + (l.length + j) * 4 + 1, none⟩ = some (.int .i64 ad) := fun z => ((hto z).cell (p := ⟨g, off + (l.length + j) * 4 + 1, none⟩) b1).trans e1
      have x2 : ∀ z : Wd S, z.w.cell? ⟨g, off + (l.length + j) * 4 + 2, none⟩ = some (.int .u32 va) := fun z => ((hto z).cell (p := ⟨g, off + (l.length + j) * 4 + 2, none⟩) b1).trans e2
      have x3 : ∀ z : Wd S, z.w.cell? ⟨g, off + (l.length + j) * 4 + 3, none⟩ = some (.int .u32 ol) := fun z => ((hto z).cell (p := ⟨g, off + (l.length + j) * 4 + 3, none⟩) b1).trans e3
      have y0 : ∀ z : Wd S, z.w.cell? ⟨w.heap.size, 0, none⟩ = some (.int .i64 kd) := fun z => ((hto z).cell (p := ⟨w.heap.size, 0, none⟩) b2).trans (cell_of HX2.out 0)
      have y1 : ∀ z : Wd S, z.w.cell? ⟨w.heap.size, 1, none⟩ = some (.int .i64 ad) := fun z => ((hto z).cell (p := ⟨w.heap.size, 1, none⟩) b2).trans (cell_of HX2.out 1)
      have y2 : ∀ z : Wd S, z.w.cell? ⟨w.heap.size, 2, none⟩ = some (.int .u32 va) := fun z => ((hto z).cell (p := ⟨w.heap.size, 2, none⟩) b2).trans (cell_of HX2.out 2)
      have y3 : ∀ z : Wd S, z.w.cell? ⟨w.heap.size, 3, none⟩ = some (.int .u32 ol) := fun z => ((hto z).cell (p := ⟨w.heap.size, 3, none⟩) b2).trans (cell_of HX2.out 3)
      have Hof := Lib.hid hof
      clear hto hof e0 e1 e2 e3
      refine lexW_light 6 (by kernel_rfl) ?_
      simp only [List.take_succ_cons, List.take_zero, List.drop_succ_cons, List.drop_zero]
      repeat (first | go_big_quiet_skip | (go_big_quiet_want; go_big_quiet_op; go_big_quiet_on))
      refine wpQuiet_nil ?_
      refine lexW_done ?_
      clear x0 x1 x2 x3 y0 y1 y2 y3
      go_wp2_with fail
      go_roundw
      case rel => exact ⟨j + 1, by omega, by go_num, HB.out.drew⟩
      case measure => simp [intOf]; omega
    · have hj' : j = 80 := by omega
      subst hj'
      have g1 : decide (((l.length + 80 : Nat) : Int) < (l.length : Int) + 80) = false := by simp
      clear hB
      go_wp2_with fail
      go_ret
      exact ⟨rfl, HB1.out.trans (HB.out.mono HB1.out.size)⟩

end Go.Proofs.YtpljdbcifaeblaaDoor
