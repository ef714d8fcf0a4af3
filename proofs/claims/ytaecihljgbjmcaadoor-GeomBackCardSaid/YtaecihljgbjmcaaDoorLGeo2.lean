/- GeomBack: true; no condition but what a start gives. -/
import Derived.Test.YtaecihljgbjmcaaDoorLGeo1
import Derived.Test.YtaecihljgbjmcaaDoorBk
namespace Go.Proofs.YtaecihljgbjmcaaDoor
open Go.RowKit

set_option maxRecDepth 100000 in
set_option maxHeartbeats 4000000 in
theorem geomBack {A : Nat → Addr} (z0 z1 z2 : Int) (w : World) (hs : SentAt w A) (b0 : -9223372036854775808 ≤ z0 ∧ z0 ≤ 9223372036854775807) (b1 : -9223372036854775808 ≤ z1 ∧ z1 ≤ 9223372036854775807)
    (b2 : -9223372036854775808 ≤ z2 ∧ z2 ≤ 9223372036854775807) : Calls Tryd.prog 10 #[.int .i64 z0, .int .i64 z1, .int .i64 z2] w (TruePost w) := by
  go_enter Tryd.func10, Tryd.ntmps10
  go_wp2_with fail
  refine (Within_b _ _ _ _ (by omega) (by omega) (by omega) b0.1 b0.2).mono ?_
  rintro e w' ⟨rfl, rfl⟩
  have ha := wiF_b (n := z0) (lo := 0) (hi := 127) (by omega)
  generalize wiF z0 0 127 = a at *
  go_wp2_with fail
  refine (Within_b _ _ _ _ (by omega) (by omega) (by omega) b1.1 b1.2).mono ?_
  rintro e w' ⟨rfl, rfl⟩
  have hb := wiF_b (n := z1) (lo := 0) (hi := 31) (by omega)
  generalize wiF z1 0 31 = b at *
  go_wp2_with fail
  refine (gline _ _).mono ?_
  rintro e w' ⟨rfl, rfl⟩
  have hl : lineF a = a / 4 := by rw [lineF, inR_iff.2 ha]; rfl
  rw [hl]
  clear hl
  have hlb : 0 ≤ a / 4 ∧ a / 4 ≤ 31 := by omega
  have hw4 : 0 ≤ a % 4 ∧ a % 4 ≤ 3 := by omega
  have hla : a / 4 * 4 + a % 4 = a := by omega
  have hwd : wordF a = a % 4 := by rw [wordF, inR_iff.2 ha]; rfl
  have had : addrF (a / 4) (a % 4) = a := by rw [addrF, inR_iff.2 hlb, inR_iff.2 hw4]; exact hla
  generalize hL : a / 4 = l at *
  go_wp2_with fail
  refine (Within_b _ _ _ _ (by omega) (by omega) (by omega) b2.1 b2.2).mono ?_
  rintro e w' ⟨rfl, rfl⟩
  have hk := wiF_b (n := z2) (lo := 0) (hi := 3) (by omega)
  generalize wiF z2 0 3 = s at *
  clear hL hla
  have HW := Lib.hid hwd
  have HA := Lib.hid had
  clear hwd had
  obtain rfl | rfl | rfl | rfl : s = 0 ∨ s = 1 ∨ s = 2 ∨ s = 3 := by omega
  · go_wp2_with fail
    refine (gword _ _).mono ?_
    rintro e w' ⟨rfl, rfl⟩
    rw [HW.out]
    go_wp2_with fail
    refine (gaddr _ _ _).mono ?_
    rintro e w' ⟨rfl, rfl⟩
    rw [HA.out]
    go_wp2_with fail
    have hsl : setF l 1 = l % 1 := by rw [setF, inR_iff.2 hlb]; rfl
    have hsb : setF b 1 = b % 1 := by rw [setF, inR_iff.2 hb]; rfl
    have hal : areaG l = l / 4 := by rw [areaG, inR_iff.2 hlb]; rfl
    have hab : areaG b = b / 4 := by rw [areaG, inR_iff.2 hb]; rfl
    have hsame : (l % 1 == b % 1) = (max (l - b) (b - l) % 1 == 0) := by
      rw [Bool.eq_iff_iff, beq_iff_eq, beq_iff_eq]
      omega
    have hd0 : 0 ≤ max (l - b) (b - l) ∧ max (l - b) (b - l) ≤ 31 := by omega
    have hfar : (l / 4 != b / 4) = false → max (l - b) (b - l) < 4 := by
      intro h
      rw [bne_eq_false_iff_eq] at h
      omega
    generalize max (l - b) (b - l) = d at *
    have hcmp : ((l % 1 == b % 1) == (d % 1 == 0)) = true := by rw [hsame]; exact beq_self_eq_true _
    clear hsame
    cases hfn : (l / 4 != b / 4) with
    | true =>
      clear hfar
      refine wp_region_lexA ⟨[24, 25], []⟩ (fun x => Below w.heap.size w x) (by kernel_rfl) (by kernel_rfl) (Below.refl _ _).drew ?_
      intro S hto hof hne
      have Hof := Lib.hid hof
      clear hto hof
      refine lexW_light 2 (by kernel_rfl) ?_
      simp only [List.take_succ_cons, List.take_zero, List.drop_succ_cons, List.drop_zero]
      repeat (first | go_big_quiet_skip | (go_big_quiet_want; go_big_quiet_op; go_big_quiet_on))
      refine wpQuiet_nil ?_
      refine lexW_pure (by kernel_rfl) (by rfl) rfl Tryd.func24 rfl (by kernel_rfl) (fun x => gset l 1 x.w) (by go_simp) ?_
      simp only [Act.put, List.setIfInBounds_toArray, List.set_cons_zero, List.set_cons_succ]
      rw [hsl]
      refine lexW_light 2 (by kernel_rfl) ?_
      simp only [List.take_succ_cons, List.take_zero, List.drop_succ_cons, List.drop_zero]
      repeat (first | go_big_quiet_skip | (go_big_quiet_want; go_big_quiet_op; go_big_quiet_on))
      refine wpQuiet_nil ?_
      refine lexW_pure (by kernel_rfl) (by rfl) rfl Tryd.func24 rfl (by kernel_rfl) (fun x => gset b 1 x.w) (by go_simp) ?_
      simp only [Act.put, List.setIfInBounds_toArray, List.set_cons_zero, List.set_cons_succ]
      rw [hsb]
      refine lexW_light 8 (by kernel_rfl) ?_
      simp only [List.take_succ_cons, List.take_zero, List.drop_succ_cons, List.drop_zero]
      repeat (first | go_big_quiet_skip | (go_big_quiet_want; go_big_quiet_op; go_big_quiet_on))
      refine wpQuiet_nil ?_
      refine lexW_pure (by kernel_rfl) (by rfl) rfl Tryd.func25 rfl (by kernel_rfl) (fun x => garea l x.w) (by go_simp) ?_
      simp only [Act.put, List.setIfInBounds_toArray, List.set_cons_zero, List.set_cons_succ]
      rw [hal]
      refine lexW_light 1 (by kernel_rfl) ?_
      simp only [List.take_succ_cons, List.take_zero, List.drop_succ_cons, List.drop_zero]
      repeat (first | go_big_quiet_skip | (go_big_quiet_want; go_big_quiet_op; go_big_quiet_on))
      refine wpQuiet_nil ?_
      refine lexW_pure (by kernel_rfl) (by rfl) rfl Tryd.func25 rfl (by kernel_rfl) (fun x => garea b x.w) (by go_simp) ?_
      simp only [Act.put, List.setIfInBounds_toArray, List.set_cons_zero, List.set_cons_succ]
      rw [hab]
      refine lexW_light 7 (by kernel_rfl) ?_
      simp only [List.take_succ_cons, List.take_zero, List.drop_succ_cons, List.drop_zero]
      repeat (first | go_big_quiet_skip | (go_big_quiet_want; go_big_quiet_op; go_big_quiet_on))
      refine wpQuiet_nil ?_
      refine lexW_heavy (by kernel_rfl) ?_
      go_wp2_with fail
      refine (geomRuns A _ (hs.below (Below.refl _ _).drew)).mono ?_
      rintro e w2 ⟨rfl, hB2⟩
      go_wp2_with fail
      have hB3 : Below w.heap.size w w2 := (Below.refl w.heap.size w).drew.trans (hB2.mono (by simp))
      refine lexQ_more (Hof.out _ hB3) ?_
      refine lexW_light 2 (by kernel_rfl) ?_
      simp only [List.take_succ_cons, List.take_zero, List.drop_succ_cons, List.drop_zero]
      repeat (first | go_big_quiet_skip | (go_big_quiet_want; go_big_quiet_op; go_big_quiet_on))
      refine wpQuiet_nil ?_
      refine lexW_done ?_
      go_wp2_with fail
      go_ret
      exact ⟨rfl, hB3⟩
    | false =>
      have hd4 := hfar hfn
      clear hfar
      refine wp_region_lexA ⟨[24, 25], []⟩ (fun x => Below w.heap.size w x) (by kernel_rfl) (by kernel_rfl) (Below.refl _ _).drew ?_
      intro S hto hof hne
      have Hof := Lib.hid hof
      clear hto hof
      refine lexW_light 2 (by kernel_rfl) ?_
      simp only [List.take_succ_cons, List.take_zero, List.drop_succ_cons, List.drop_zero]
      repeat (first | go_big_quiet_skip | (go_big_quiet_want; go_big_quiet_op; go_big_quiet_on))
      refine wpQuiet_nil ?_
      refine lexW_pure (by kernel_rfl) (by rfl) rfl Tryd.func24 rfl (by kernel_rfl) (fun x => gset l 1 x.w) (by go_simp) ?_
      simp only [Act.put, List.setIfInBounds_toArray, List.set_cons_zero, List.set_cons_succ]
      rw [hsl]
      refine lexW_light 2 (by kernel_rfl) ?_
      simp only [List.take_succ_cons, List.take_zero, List.drop_succ_cons, List.drop_zero]
      repeat (first | go_big_quiet_skip | (go_big_quiet_want; go_big_quiet_op; go_big_quiet_on))
      refine wpQuiet_nil ?_
      refine lexW_pure (by kernel_rfl) (by rfl) rfl Tryd.func24 rfl (by kernel_rfl) (fun x => gset b 1 x.w) (by go_simp) ?_
      simp only [Act.put, List.setIfInBounds_toArray, List.set_cons_zero, List.set_cons_succ]
      rw [hsb]
      refine lexW_light 8 (by kernel_rfl) ?_
      simp only [List.take_succ_cons, List.take_zero, List.drop_succ_cons, List.drop_zero]
      repeat (first | go_big_quiet_skip | (go_big_quiet_want; go_big_quiet_op; go_big_quiet_on))
      refine wpQuiet_nil ?_
      refine lexW_pure (by kernel_rfl) (by rfl) rfl Tryd.func25 rfl (by kernel_rfl) (fun x => garea l x.w) (by go_simp) ?_
      simp only [Act.put, List.setIfInBounds_toArray, List.set_cons_zero, List.set_cons_succ]
      rw [hal]
      refine lexW_light 1 (by kernel_rfl) ?_
      simp only [List.take_succ_cons, List.take_zero, List.drop_succ_cons, List.drop_zero]
      repeat (first | go_big_quiet_skip | (go_big_quiet_want; go_big_quiet_op; go_big_quiet_on))
      refine wpQuiet_nil ?_
      refine lexW_pure (by kernel_rfl) (by rfl) rfl Tryd.func25 rfl (by kernel_rfl) (fun x => garea b x.w) (by go_simp) ?_
      simp only [Act.put, List.setIfInBounds_toArray, List.set_cons_zero, List.set_cons_succ]
      rw [hab]
      refine lexW_light 7 (by kernel_rfl) ?_
      simp only [List.take_succ_cons, List.take_zero, List.drop_succ_cons, List.drop_zero]
      repeat (first | go_big_quiet_skip | (go_big_quiet_want; go_big_quiet_op; go_big_quiet_on))
      refine wpQuiet_nil ?_
      refine lexW_heavy (by kernel_rfl) ?_
      go_wp2_with fail
      refine (geomRuns A _ (hs.below (Below.refl _ _).drew)).mono ?_
      rintro e w2 ⟨rfl, hB2⟩
      go_wp2_with fail
      have hB3 : Below w.heap.size w w2 := (Below.refl w.heap.size w).drew.trans (hB2.mono (by simp))
      refine lexQ_more (Hof.out _ hB3) ?_
      refine lexW_light 2 (by kernel_rfl) ?_
      simp only [List.take_succ_cons, List.take_zero, List.drop_succ_cons, List.drop_zero]
      repeat (first | go_big_quiet_skip | (go_big_quiet_want; go_big_quiet_op; go_big_quiet_on))
      refine wpQuiet_nil ?_
      refine lexW_done ?_
      go_wp2_with fail
      go_ret
      exact ⟨rfl, hB3⟩
  · go_wp2_with fail
    refine (gword _ _).mono ?_
    rintro e w' ⟨rfl, rfl⟩
    rw [HW.out]
    go_wp2_with fail
    refine (gaddr _ _ _).mono ?_
    rintro e w' ⟨rfl, rfl⟩
    rw [HA.out]
    go_wp2_with fail
    have hsl : setF l 2 = l % 2 := by rw [setF, inR_iff.2 hlb]; rfl
    have hsb : setF b 2 = b % 2 := by rw [setF, inR_iff.2 hb]; rfl
    have hal : areaG l = l / 4 := by rw [areaG, inR_iff.2 hlb]; rfl
    have hab : areaG b = b / 4 := by rw [areaG, inR_iff.2 hb]; rfl
    have hsame : (l % 2 == b % 2) = (max (l - b) (b - l) % 2 == 0) := by
      rw [Bool.eq_iff_iff, beq_iff_eq, beq_iff_eq]
      omega
    have hd0 : 0 ≤ max (l - b) (b - l) ∧ max (l - b) (b - l) ≤ 31 := by omega
    have hfar : (l / 4 != b / 4) = false → max (l - b) (b - l) < 4 := by
      intro h
      rw [bne_eq_false_iff_eq] at h
      omega
    generalize max (l - b) (b - l) = d at *
    have hcmp : ((l % 2 == b % 2) == (d % 2 == 0)) = true := by rw [hsame]; exact beq_self_eq_true _
    clear hsame
    cases hfn : (l / 4 != b / 4) with
    | true =>
      clear hfar
      refine wp_region_lexA ⟨[24, 25], []⟩ (fun x => Below w.heap.size w x) (by kernel_rfl) (by kernel_rfl) (Below.refl _ _).drew ?_
      intro S hto hof hne
      have Hof := Lib.hid hof
      clear hto hof
      refine lexW_light 2 (by kernel_rfl) ?_
      simp only [List.take_succ_cons, List.take_zero, List.drop_succ_cons, List.drop_zero]
      repeat (first | go_big_quiet_skip | (go_big_quiet_want; go_big_quiet_op; go_big_quiet_on))
      refine wpQuiet_nil ?_
      refine lexW_pure (by kernel_rfl) (by rfl) rfl Tryd.func24 rfl (by kernel_rfl) (fun x => gset l 2 x.w) (by go_simp) ?_
      simp only [Act.put, List.setIfInBounds_toArray, List.set_cons_zero, List.set_cons_succ]
      rw [hsl]
      refine lexW_light 2 (by kernel_rfl) ?_
      simp only [List.take_succ_cons, List.take_zero, List.drop_succ_cons, List.drop_zero]
      repeat (first | go_big_quiet_skip | (go_big_quiet_want; go_big_quiet_op; go_big_quiet_on))
      refine wpQuiet_nil ?_
      refine lexW_pure (by kernel_rfl) (by rfl) rfl Tryd.func24 rfl (by kernel_rfl) (fun x => gset b 2 x.w) (by go_simp) ?_
      simp only [Act.put, List.setIfInBounds_toArray, List.set_cons_zero, List.set_cons_succ]
      rw [hsb]
      refine lexW_light 8 (by kernel_rfl) ?_
      simp only [List.take_succ_cons, List.take_zero, List.drop_succ_cons, List.drop_zero]
      repeat (first | go_big_quiet_skip | (go_big_quiet_want; go_big_quiet_op; go_big_quiet_on))
      refine wpQuiet_nil ?_
      refine lexW_pure (by kernel_rfl) (by rfl) rfl Tryd.func25 rfl (by kernel_rfl) (fun x => garea l x.w) (by go_simp) ?_
      simp only [Act.put, List.setIfInBounds_toArray, List.set_cons_zero, List.set_cons_succ]
      rw [hal]
      refine lexW_light 1 (by kernel_rfl) ?_
      simp only [List.take_succ_cons, List.take_zero, List.drop_succ_cons, List.drop_zero]
      repeat (first | go_big_quiet_skip | (go_big_quiet_want; go_big_quiet_op; go_big_quiet_on))
      refine wpQuiet_nil ?_
      refine lexW_pure (by kernel_rfl) (by rfl) rfl Tryd.func25 rfl (by kernel_rfl) (fun x => garea b x.w) (by go_simp) ?_
      simp only [Act.put, List.setIfInBounds_toArray, List.set_cons_zero, List.set_cons_succ]
      rw [hab]
      refine lexW_light 7 (by kernel_rfl) ?_
      simp only [List.take_succ_cons, List.take_zero, List.drop_succ_cons, List.drop_zero]
      repeat (first | go_big_quiet_skip | (go_big_quiet_want; go_big_quiet_op; go_big_quiet_on))
      refine wpQuiet_nil ?_
      refine lexW_heavy (by kernel_rfl) ?_
      go_wp2_with fail
      refine (geomRuns A _ (hs.below (Below.refl _ _).drew)).mono ?_
      rintro e w2 ⟨rfl, hB2⟩
      go_wp2_with fail
      have hB3 : Below w.heap.size w w2 := (Below.refl w.heap.size w).drew.trans (hB2.mono (by simp))
      refine lexQ_more (Hof.out _ hB3) ?_
      refine lexW_light 2 (by kernel_rfl) ?_
      simp only [List.take_succ_cons, List.take_zero, List.drop_succ_cons, List.drop_zero]
      repeat (first | go_big_quiet_skip | (go_big_quiet_want; go_big_quiet_op; go_big_quiet_on))
      refine wpQuiet_nil ?_
      refine lexW_done ?_
      go_wp2_with fail
      go_ret
      exact ⟨rfl, hB3⟩
    | false =>
      have hd4 := hfar hfn
      clear hfar
      refine wp_region_lexA ⟨[24, 25], []⟩ (fun x => Below w.heap.size w x) (by kernel_rfl) (by kernel_rfl) (Below.refl _ _).drew ?_
      intro S hto hof hne
      have Hof := Lib.hid hof
      clear hto hof
      refine lexW_light 2 (by kernel_rfl) ?_
      simp only [List.take_succ_cons, List.take_zero, List.drop_succ_cons, List.drop_zero]
      repeat (first | go_big_quiet_skip | (go_big_quiet_want; go_big_quiet_op; go_big_quiet_on))
      refine wpQuiet_nil ?_
      refine lexW_pure (by kernel_rfl) (by rfl) rfl Tryd.func24 rfl (by kernel_rfl) (fun x => gset l 2 x.w) (by go_simp) ?_
      simp only [Act.put, List.setIfInBounds_toArray, List.set_cons_zero, List.set_cons_succ]
      rw [hsl]
      refine lexW_light 2 (by kernel_rfl) ?_
      simp only [List.take_succ_cons, List.take_zero, List.drop_succ_cons, List.drop_zero]
      repeat (first | go_big_quiet_skip | (go_big_quiet_want; go_big_quiet_op; go_big_quiet_on))
      refine wpQuiet_nil ?_
      refine lexW_pure (by kernel_rfl) (by rfl) rfl Tryd.func24 rfl (by kernel_rfl) (fun x => gset b 2 x.w) (by go_simp) ?_
      simp only [Act.put, List.setIfInBounds_toArray, List.set_cons_zero, List.set_cons_succ]
      rw [hsb]
      refine lexW_light 8 (by kernel_rfl) ?_
      simp only [List.take_succ_cons, List.take_zero, List.drop_succ_cons, List.drop_zero]
      repeat (first | go_big_quiet_skip | (go_big_quiet_want; go_big_quiet_op; go_big_quiet_on))
      refine wpQuiet_nil ?_
      refine lexW_pure (by kernel_rfl) (by rfl) rfl Tryd.func25 rfl (by kernel_rfl) (fun x => garea l x.w) (by go_simp) ?_
      simp only [Act.put, List.setIfInBounds_toArray, List.set_cons_zero, List.set_cons_succ]
      rw [hal]
      refine lexW_light 1 (by kernel_rfl) ?_
      simp only [List.take_succ_cons, List.take_zero, List.drop_succ_cons, List.drop_zero]
      repeat (first | go_big_quiet_skip | (go_big_quiet_want; go_big_quiet_op; go_big_quiet_on))
      refine wpQuiet_nil ?_
      refine lexW_pure (by kernel_rfl) (by rfl) rfl Tryd.func25 rfl (by kernel_rfl) (fun x => garea b x.w) (by go_simp) ?_
      simp only [Act.put, List.setIfInBounds_toArray, List.set_cons_zero, List.set_cons_succ]
      rw [hab]
      refine lexW_light 7 (by kernel_rfl) ?_
      simp only [List.take_succ_cons, List.take_zero, List.drop_succ_cons, List.drop_zero]
      repeat (first | go_big_quiet_skip | (go_big_quiet_want; go_big_quiet_op; go_big_quiet_on))
      refine wpQuiet_nil ?_
      refine lexW_heavy (by kernel_rfl) ?_
      go_wp2_with fail
      refine (geomRuns A _ (hs.below (Below.refl _ _).drew)).mono ?_
      rintro e w2 ⟨rfl, hB2⟩
      go_wp2_with fail
      have hB3 : Below w.heap.size w w2 := (Below.refl w.heap.size w).drew.trans (hB2.mono (by simp))
      refine lexQ_more (Hof.out _ hB3) ?_
      refine lexW_light 2 (by kernel_rfl) ?_
      simp only [List.take_succ_cons, List.take_zero, List.drop_succ_cons, List.drop_zero]
      repeat (first | go_big_quiet_skip | (go_big_quiet_want; go_big_quiet_op; go_big_quiet_on))
      refine wpQuiet_nil ?_
      refine lexW_done ?_
      go_wp2_with fail
      go_ret
      exact ⟨rfl, hB3⟩
  · go_wp2_with fail
    refine (gword _ _).mono ?_
    rintro e w' ⟨rfl, rfl⟩
    rw [HW.out]
    go_wp2_with fail
    refine (gaddr _ _ _).mono ?_
    rintro e w' ⟨rfl, rfl⟩
    rw [HA.out]
    go_wp2_with fail
    have hsl : setF l 4 = l % 4 := by rw [setF, inR_iff.2 hlb]; rfl
    have hsb : setF b 4 = b % 4 := by rw [setF, inR_iff.2 hb]; rfl
    have hal : areaG l = l / 4 := by rw [areaG, inR_iff.2 hlb]; rfl
    have hab : areaG b = b / 4 := by rw [areaG, inR_iff.2 hb]; rfl
    have hsame : (l % 4 == b % 4) = (max (l - b) (b - l) % 4 == 0) := by
      rw [Bool.eq_iff_iff, beq_iff_eq, beq_iff_eq]
      omega
    have hd0 : 0 ≤ max (l - b) (b - l) ∧ max (l - b) (b - l) ≤ 31 := by omega
    have hfar : (l / 4 != b / 4) = false → max (l - b) (b - l) < 4 := by
      intro h
      rw [bne_eq_false_iff_eq] at h
      omega
    generalize max (l - b) (b - l) = d at *
    have hcmp : ((l % 4 == b % 4) == (d % 4 == 0)) = true := by rw [hsame]; exact beq_self_eq_true _
    clear hsame
    cases hfn : (l / 4 != b / 4) with
    | true =>
      clear hfar
      refine wp_region_lexA ⟨[24, 25], []⟩ (fun x => Below w.heap.size w x) (by kernel_rfl) (by kernel_rfl) (Below.refl _ _).drew ?_
      intro S hto hof hne
      have Hof := Lib.hid hof
      clear hto hof
      refine lexW_light 2 (by kernel_rfl) ?_
      simp only [List.take_succ_cons, List.take_zero, List.drop_succ_cons, List.drop_zero]
      repeat (first | go_big_quiet_skip | (go_big_quiet_want; go_big_quiet_op; go_big_quiet_on))
      refine wpQuiet_nil ?_
      refine lexW_pure (by kernel_rfl) (by rfl) rfl Tryd.func24 rfl (by kernel_rfl) (fun x => gset l 4 x.w) (by go_simp) ?_
      simp only [Act.put, List.setIfInBounds_toArray, List.set_cons_zero, List.set_cons_succ]
      rw [hsl]
      refine lexW_light 2 (by kernel_rfl) ?_
      simp only [List.take_succ_cons, List.take_zero, List.drop_succ_cons, List.drop_zero]
      repeat (first | go_big_quiet_skip | (go_big_quiet_want; go_big_quiet_op; go_big_quiet_on))
      refine wpQuiet_nil ?_
      refine lexW_pure (by kernel_rfl) (by rfl) rfl Tryd.func24 rfl (by kernel_rfl) (fun x => gset b 4 x.w) (by go_simp) ?_
      simp only [Act.put, List.setIfInBounds_toArray, List.set_cons_zero, List.set_cons_succ]
      rw [hsb]
      refine lexW_light 8 (by kernel_rfl) ?_
      simp only [List.take_succ_cons, List.take_zero, List.drop_succ_cons, List.drop_zero]
      repeat (first | go_big_quiet_skip | (go_big_quiet_want; go_big_quiet_op; go_big_quiet_on))
      refine wpQuiet_nil ?_
      refine lexW_pure (by kernel_rfl) (by rfl) rfl Tryd.func25 rfl (by kernel_rfl) (fun x => garea l x.w) (by go_simp) ?_
      simp only [Act.put, List.setIfInBounds_toArray, List.set_cons_zero, List.set_cons_succ]
      rw [hal]
      refine lexW_light 1 (by kernel_rfl) ?_
      simp only [List.take_succ_cons, List.take_zero, List.drop_succ_cons, List.drop_zero]
      repeat (first | go_big_quiet_skip | (go_big_quiet_want; go_big_quiet_op; go_big_quiet_on))
      refine wpQuiet_nil ?_
      refine lexW_pure (by kernel_rfl) (by rfl) rfl Tryd.func25 rfl (by kernel_rfl) (fun x => garea b x.w) (by go_simp) ?_
      simp only [Act.put, List.setIfInBounds_toArray, List.set_cons_zero, List.set_cons_succ]
      rw [hab]
      refine lexW_light 7 (by kernel_rfl) ?_
      simp only [List.take_succ_cons, List.take_zero, List.drop_succ_cons, List.drop_zero]
      repeat (first | go_big_quiet_skip | (go_big_quiet_want; go_big_quiet_op; go_big_quiet_on))
      refine wpQuiet_nil ?_
      refine lexW_heavy (by kernel_rfl) ?_
      go_wp2_with fail
      refine (geomRuns A _ (hs.below (Below.refl _ _).drew)).mono ?_
      rintro e w2 ⟨rfl, hB2⟩
      go_wp2_with fail
      have hB3 : Below w.heap.size w w2 := (Below.refl w.heap.size w).drew.trans (hB2.mono (by simp))
      refine lexQ_more (Hof.out _ hB3) ?_
      refine lexW_light 2 (by kernel_rfl) ?_
      simp only [List.take_succ_cons, List.take_zero, List.drop_succ_cons, List.drop_zero]
      repeat (first | go_big_quiet_skip | (go_big_quiet_want; go_big_quiet_op; go_big_quiet_on))
      refine wpQuiet_nil ?_
      refine lexW_done ?_
      go_wp2_with fail
      go_ret
      exact ⟨rfl, hB3⟩
    | false =>
      have hd4 := hfar hfn
      clear hfar
      refine wp_region_lexA ⟨[24, 25], []⟩ (fun x => Below w.heap.size w x) (by kernel_rfl) (by kernel_rfl) (Below.refl _ _).drew ?_
      intro S hto hof hne
      have Hof := Lib.hid hof
      clear hto hof
      refine lexW_light 2 (by kernel_rfl) ?_
      simp only [List.take_succ_cons, List.take_zero, List.drop_succ_cons, List.drop_zero]
      repeat (first | go_big_quiet_skip | (go_big_quiet_want; go_big_quiet_op; go_big_quiet_on))
      refine wpQuiet_nil ?_
      refine lexW_pure (by kernel_rfl) (by rfl) rfl Tryd.func24 rfl (by kernel_rfl) (fun x => gset l 4 x.w) (by go_simp) ?_
      simp only [Act.put, List.setIfInBounds_toArray, List.set_cons_zero, List.set_cons_succ]
      rw [hsl]
      refine lexW_light 2 (by kernel_rfl) ?_
      simp only [List.take_succ_cons, List.take_zero, List.drop_succ_cons, List.drop_zero]
      repeat (first | go_big_quiet_skip | (go_big_quiet_want; go_big_quiet_op; go_big_quiet_on))
      refine wpQuiet_nil ?_
      refine lexW_pure (by kernel_rfl) (by rfl) rfl Tryd.func24 rfl (by kernel_rfl) (fun x => gset b 4 x.w) (by go_simp) ?_
      simp only [Act.put, List.setIfInBounds_toArray, List.set_cons_zero, List.set_cons_succ]
      rw [hsb]
      refine lexW_light 8 (by kernel_rfl) ?_
      simp only [List.take_succ_cons, List.take_zero, List.drop_succ_cons, List.drop_zero]
      repeat (first | go_big_quiet_skip | (go_big_quiet_want; go_big_quiet_op; go_big_quiet_on))
      refine wpQuiet_nil ?_
      refine lexW_pure (by kernel_rfl) (by rfl) rfl Tryd.func25 rfl (by kernel_rfl) (fun x => garea l x.w) (by go_simp) ?_
      simp only [Act.put, List.setIfInBounds_toArray, List.set_cons_zero, List.set_cons_succ]
      rw [hal]
      refine lexW_light 1 (by kernel_rfl) ?_
      simp only [List.take_succ_cons, List.take_zero, List.drop_succ_cons, List.drop_zero]
      repeat (first | go_big_quiet_skip | (go_big_quiet_want; go_big_quiet_op; go_big_quiet_on))
      refine wpQuiet_nil ?_
      refine lexW_pure (by kernel_rfl) (by rfl) rfl Tryd.func25 rfl (by kernel_rfl) (fun x => garea b x.w) (by go_simp) ?_
      simp only [Act.put, List.setIfInBounds_toArray, List.set_cons_zero, List.set_cons_succ]
      rw [hab]
      refine lexW_light 7 (by kernel_rfl) ?_
      simp only [List.take_succ_cons, List.take_zero, List.drop_succ_cons, List.drop_zero]
      repeat (first | go_big_quiet_skip | (go_big_quiet_want; go_big_quiet_op; go_big_quiet_on))
      refine wpQuiet_nil ?_
      refine lexW_heavy (by kernel_rfl) ?_
      go_wp2_with fail
      refine (geomRuns A _ (hs.below (Below.refl _ _).drew)).mono ?_
      rintro e w2 ⟨rfl, hB2⟩
      go_wp2_with fail
      have hB3 : Below w.heap.size w w2 := (Below.refl w.heap.size w).drew.trans (hB2.mono (by simp))
      refine lexQ_more (Hof.out _ hB3) ?_
      refine lexW_light 2 (by kernel_rfl) ?_
      simp only [List.take_succ_cons, List.take_zero, List.drop_succ_cons, List.drop_zero]
      repeat (first | go_big_quiet_skip | (go_big_quiet_want; go_big_quiet_op; go_big_quiet_on))
      refine wpQuiet_nil ?_
      refine lexW_done ?_
      go_wp2_with fail
      go_ret
      exact ⟨rfl, hB3⟩
  · go_wp2_with fail
    refine (gword _ _).mono ?_
    rintro e w' ⟨rfl, rfl⟩
    rw [HW.out]
    go_wp2_with fail
    refine (gaddr _ _ _).mono ?_
    rintro e w' ⟨rfl, rfl⟩
    rw [HA.out]
    go_wp2_with fail
    have hsl : setF l 8 = l % 8 := by rw [setF, inR_iff.2 hlb]; rfl
    have hsb : setF b 8 = b % 8 := by rw [setF, inR_iff.2 hb]; rfl
    have hal : areaG l = l / 4 := by rw [areaG, inR_iff.2 hlb]; rfl
    have hab : areaG b = b / 4 := by rw [areaG, inR_iff.2 hb]; rfl
    have hsame : (l % 8 == b % 8) = (max (l - b) (b - l) % 8 == 0) := by
      rw [Bool.eq_iff_iff, beq_iff_eq, beq_iff_eq]
      omega
    have hd0 : 0 ≤ max (l - b) (b - l) ∧ max (l - b) (b - l) ≤ 31 := by omega
    have hfar : (l / 4 != b / 4) = false → max (l - b) (b - l) < 4 := by
      intro h
      rw [bne_eq_false_iff_eq] at h
      omega
    generalize max (l - b) (b - l) = d at *
    have hcmp : ((l % 8 == b % 8) == (d % 8 == 0)) = true := by rw [hsame]; exact beq_self_eq_true _
    clear hsame
    cases hfn : (l / 4 != b / 4) with
    | true =>
      clear hfar
      refine wp_region_lexA ⟨[24, 25], []⟩ (fun x => Below w.heap.size w x) (by kernel_rfl) (by kernel_rfl) (Below.refl _ _).drew ?_
      intro S hto hof hne
      have Hof := Lib.hid hof
      clear hto hof
      refine lexW_light 2 (by kernel_rfl) ?_
      simp only [List.take_succ_cons, List.take_zero, List.drop_succ_cons, List.drop_zero]
      repeat (first | go_big_quiet_skip | (go_big_quiet_want; go_big_quiet_op; go_big_quiet_on))
      refine wpQuiet_nil ?_
      refine lexW_pure (by kernel_rfl) (by rfl) rfl Tryd.func24 rfl (by kernel_rfl) (fun x => gset l 8 x.w) (by go_simp) ?_
      simp only [Act.put, List.setIfInBounds_toArray, List.set_cons_zero, List.set_cons_succ]
      rw [hsl]
      refine lexW_light 2 (by kernel_rfl) ?_
      simp only [List.take_succ_cons, List.take_zero, List.drop_succ_cons, List.drop_zero]
      repeat (first | go_big_quiet_skip | (go_big_quiet_want; go_big_quiet_op; go_big_quiet_on))
      refine wpQuiet_nil ?_
      refine lexW_pure (by kernel_rfl) (by rfl) rfl Tryd.func24 rfl (by kernel_rfl) (fun x => gset b 8 x.w) (by go_simp) ?_
      simp only [Act.put, List.setIfInBounds_toArray, List.set_cons_zero, List.set_cons_succ]
      rw [hsb]
      refine lexW_light 8 (by kernel_rfl) ?_
      simp only [List.take_succ_cons, List.take_zero, List.drop_succ_cons, List.drop_zero]
      repeat (first | go_big_quiet_skip | (go_big_quiet_want; go_big_quiet_op; go_big_quiet_on))
      refine wpQuiet_nil ?_
      refine lexW_pure (by kernel_rfl) (by rfl) rfl Tryd.func25 rfl (by kernel_rfl) (fun x => garea l x.w) (by go_simp) ?_
      simp only [Act.put, List.setIfInBounds_toArray, List.set_cons_zero, List.set_cons_succ]
      rw [hal]
      refine lexW_light 1 (by kernel_rfl) ?_
      simp only [List.take_succ_cons, List.take_zero, List.drop_succ_cons, List.drop_zero]
      repeat (first | go_big_quiet_skip | (go_big_quiet_want; go_big_quiet_op; go_big_quiet_on))
      refine wpQuiet_nil ?_
      refine lexW_pure (by kernel_rfl) (by rfl) rfl Tryd.func25 rfl (by kernel_rfl) (fun x => garea b x.w) (by go_simp) ?_
      simp only [Act.put, List.setIfInBounds_toArray, List.set_cons_zero, List.set_cons_succ]
      rw [hab]
      refine lexW_light 7 (by kernel_rfl) ?_
      simp only [List.take_succ_cons, List.take_zero, List.drop_succ_cons, List.drop_zero]
      repeat (first | go_big_quiet_skip | (go_big_quiet_want; go_big_quiet_op; go_big_quiet_on))
      refine wpQuiet_nil ?_
      refine lexW_heavy (by kernel_rfl) ?_
      go_wp2_with fail
      refine (geomRuns A _ (hs.below (Below.refl _ _).drew)).mono ?_
      rintro e w2 ⟨rfl, hB2⟩
      go_wp2_with fail
      have hB3 : Below w.heap.size w w2 := (Below.refl w.heap.size w).drew.trans (hB2.mono (by simp))
      refine lexQ_more (Hof.out _ hB3) ?_
      refine lexW_light 2 (by kernel_rfl) ?_
      simp only [List.take_succ_cons, List.take_zero, List.drop_succ_cons, List.drop_zero]
      repeat (first | go_big_quiet_skip | (go_big_quiet_want; go_big_quiet_op; go_big_quiet_on))
      refine wpQuiet_nil ?_
      refine lexW_done ?_
      go_wp2_with fail
      go_ret
      exact ⟨rfl, hB3⟩
    | false =>
      have hd4 := hfar hfn
      clear hfar
      refine wp_region_lexA ⟨[24, 25], []⟩ (fun x => Below w.heap.size w x) (by kernel_rfl) (by kernel_rfl) (Below.refl _ _).drew ?_
      intro S hto hof hne
      have Hof := Lib.hid hof
      clear hto hof
      refine lexW_light 2 (by kernel_rfl) ?_
      simp only [List.take_succ_cons, List.take_zero, List.drop_succ_cons, List.drop_zero]
      repeat (first | go_big_quiet_skip | (go_big_quiet_want; go_big_quiet_op; go_big_quiet_on))
      refine wpQuiet_nil ?_
      refine lexW_pure (by kernel_rfl) (by rfl) rfl Tryd.func24 rfl (by kernel_rfl) (fun x => gset l 8 x.w) (by go_simp) ?_
      simp only [Act.put, List.setIfInBounds_toArray, List.set_cons_zero, List.set_cons_succ]
      rw [hsl]
      refine lexW_light 2 (by kernel_rfl) ?_
      simp only [List.take_succ_cons, List.take_zero, List.drop_succ_cons, List.drop_zero]
      repeat (first | go_big_quiet_skip | (go_big_quiet_want; go_big_quiet_op; go_big_quiet_on))
      refine wpQuiet_nil ?_
      refine lexW_pure (by kernel_rfl) (by rfl) rfl Tryd.func24 rfl (by kernel_rfl) (fun x => gset b 8 x.w) (by go_simp) ?_
      simp only [Act.put, List.setIfInBounds_toArray, List.set_cons_zero, List.set_cons_succ]
      rw [hsb]
      refine lexW_light 8 (by kernel_rfl) ?_
      simp only [List.take_succ_cons, List.take_zero, List.drop_succ_cons, List.drop_zero]
      repeat (first | go_big_quiet_skip | (go_big_quiet_want; go_big_quiet_op; go_big_quiet_on))
      refine wpQuiet_nil ?_
      refine lexW_pure (by kernel_rfl) (by rfl) rfl Tryd.func25 rfl (by kernel_rfl) (fun x => garea l x.w) (by go_simp) ?_
      simp only [Act.put, List.setIfInBounds_toArray, List.set_cons_zero, List.set_cons_succ]
      rw [hal]
      refine lexW_light 1 (by kernel_rfl) ?_
      simp only [List.take_succ_cons, List.take_zero, List.drop_succ_cons, List.drop_zero]
      repeat (first | go_big_quiet_skip | (go_big_quiet_want; go_big_quiet_op; go_big_quiet_on))
      refine wpQuiet_nil ?_
      refine lexW_pure (by kernel_rfl) (by rfl) rfl Tryd.func25 rfl (by kernel_rfl) (fun x => garea b x.w) (by go_simp) ?_
      simp only [Act.put, List.setIfInBounds_toArray, List.set_cons_zero, List.set_cons_succ]
      rw [hab]
      refine lexW_light 7 (by kernel_rfl) ?_
      simp only [List.take_succ_cons, List.take_zero, List.drop_succ_cons, List.drop_zero]
      repeat (first | go_big_quiet_skip | (go_big_quiet_want; go_big_quiet_op; go_big_quiet_on))
      refine wpQuiet_nil ?_
      refine lexW_heavy (by kernel_rfl) ?_
      go_wp2_with fail
      refine (geomRuns A _ (hs.below (Below.refl _ _).drew)).mono ?_
      rintro e w2 ⟨rfl, hB2⟩
      go_wp2_with fail
      have hB3 : Below w.heap.size w w2 := (Below.refl w.heap.size w).drew.trans (hB2.mono (by simp))
      refine lexQ_more (Hof.out _ hB3) ?_
      refine lexW_light 2 (by kernel_rfl) ?_
      simp only [List.take_succ_cons, List.take_zero, List.drop_succ_cons, List.drop_zero]
      repeat (first | go_big_quiet_skip | (go_big_quiet_want; go_big_quiet_op; go_big_quiet_on))
      refine wpQuiet_nil ?_
      refine lexW_done ?_
      go_wp2_with fail
      go_ret
      exact ⟨rfl, hB3⟩

end Go.Proofs.YtaecihljgbjmcaaDoor
