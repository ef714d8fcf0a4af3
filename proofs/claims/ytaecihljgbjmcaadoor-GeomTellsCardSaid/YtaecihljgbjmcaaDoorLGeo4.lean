/- GeomTells, where the configuration may be. -/
import Derived.Test.YtaecihljgbjmcaaDoorLGeo3
namespace Go.Proofs.YtaecihljgbjmcaaDoor
open Go.RowKit

set_option maxRecDepth 100000 in
set_option maxHeartbeats 8000000 in
theorem geomTells_none {A : Nat → Addr} (g : Nat → Int) (z1 z2 z3 z4 : Int) (w : World) (hbad : badAt g = none) (hs : SentAt w A) (hg : ∀ j, j < 9 → -9223372036854775808 ≤ g j ∧ g j ≤ 9223372036854775807) :
    Calls Tryd.prog 11 #[cfgV g, .int .i64 z1, .int .i64 z2, .int .i64 z3, .int .i64 z4] w (TruePost w) := by
  have hblk := heap_alloc_at w (cfgO g)
  have hs1 : Below w.heap.size w (w.alloc (cfgO g)) := (Below.refl _ _).alloc (Nat.le_refl _) _
  have hz : (w.alloc (cfgO g)).heap.size = w.heap.size + 1 := by simp
  have HG := Lib.hid hg
  clear hg
  simp only [cfgV]
  go_enter Tryd.func11, Tryd.ntmps11
  go_wp2_with fail
  rw [show Obj.cells #[.int .i64 (g 0), .int .i64 (g 1), .int .i64 (g 2), .int .i64 (g 3), .int .i64 (g 4), .int .i64 (g 5), .int .i64 (g 6), .int .i64 (g 7), .int .i64 (g 8)] 42 = cfgO g from rfl]
  generalize w.alloc (cfgO g) = W at hblk hs1 hz ⊢
  have HZ := Lib.hid hz
  have HB := Lib.hid hs1
  have HS := Lib.hid hs
  clear hz hs1 hs
  refine (rconfig g W HG.out).mono ?_
  rintro e W2 ⟨rfl, hB2⟩
  have hld2 := cfg_at ((hB2.block _ (by have := HZ.out; omega)).trans hblk)
  go_wp2_with fail
  refine (gcheck A g W2 ((HS.out.below HB.out).below hB2)).mono ?_
  rintro e W3 ⟨rfl, hB3⟩
  have hB : Below W.heap.size W W3 := hB2.trans (hB3.mono hB2.size)
  have HB3 := Lib.hid (HB.out.trans (hB.mono HB.out.size))
  have hblk3 := (hB.block _ (by have := HZ.out; omega)).trans hblk
  have hs3 := HS.out.below HB3.out
  have hz3 : w.heap.size < W3.heap.size := by have := HZ.out; have := hB.size; omega
  have HZ3 := Lib.hid hz3
  clear hblk hB2 hB3 hB hld2 HZ HB HS hz3
  have hld3 := cfg_at hblk3
  unfold cfgErr rcfgF
  have h1 := inR_iff.1 (badAt_none_iff.1 hbad 1 (by omega))
  have htot : totalF g = g 1 * 4 := by rw [totalF, hbad]
  rw [hbad]
  have HT := Lib.hid htot
  clear hbad htot
  simp only [ErrT.val]
  have hpow : z4 = 1 ∨ z4 = 2 ∨ z4 = 4 ∨ z4 = 8 ∨ ((z4 == 1) = false ∧ (z4 == 2) = false ∧ (z4 == 4) = false ∧ (z4 == 8) = false) := by
    simp only [beq_eq_false_iff_ne]
    omega
  obtain rfl | rfl | rfl | rfl | ⟨p1, p2, p4, p8⟩ := hpow
  all_goals
    go_wp2_with fail
  all_goals
    refine (gtotal A g W3 hs3).mono ?_
    rintro e W4 ⟨rfl, hB4⟩
    rw [HT.out]
    go_wp2_with fail
    refine (gline _ _).mono ?_
    rintro e w' ⟨rfl, rfl⟩
    rw [lineF_if]
    go_wp2_with fail
    refine (gword _ _).mono ?_
    rintro e w' ⟨rfl, rfl⟩
    rw [wordF_if]
    go_wp2_with fail
    refine (gaddr _ _ _).mono ?_
    rintro e w' ⟨rfl, rfl⟩
    rw [addrF_if]
    go_wp2_with fail
    refine (gset _ _ _).mono ?_
    rintro e w' ⟨rfl, rfl⟩
    first | rw [setF_bad z2 p1 p2 p4 p8] | rw [setF_if]
    go_wp2_with fail
    refine (garea _ _).mono ?_
    rintro e w' ⟨rfl, rfl⟩
    rw [areaG_if]
    go_wp2_with fail
    refine (geomRuns A _ (hs3.below hB4)).mono ?_
    rintro e W5 ⟨rfl, hB5⟩
    go_wp2_with fail
    go_ret
    exact ⟨rfl, HB3.out.trans ((hB4.trans (hB5.mono hB4.size)).mono (by have := HZ3.out; omega))⟩

end Go.Proofs.YtaecihljgbjmcaaDoor
