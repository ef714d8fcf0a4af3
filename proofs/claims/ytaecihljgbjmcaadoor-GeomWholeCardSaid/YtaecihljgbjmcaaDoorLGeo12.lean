/- GeomWhole: the walk. -/
import Derived.Test.YtaecihljgbjmcaaDoorLGeo11
namespace Go.Proofs.YtaecihljgbjmcaaDoor
open Go.RowKit

set_option maxRecDepth 100000 in
set_option maxHeartbeats 8000000 in
theorem geomWhole {A : Nat → Addr} (g : Nat → Int) (z1 : Int) (w : World) (hs : SentAt w A) (hg : ∀ j, j < 9 → -9223372036854775808 ≤ g j ∧ g j ≤ 9223372036854775807) (b1 : -9223372036854775808 ≤ z1 ∧ z1 ≤ 9223372036854775807) :
    Calls Tryd.prog 12 #[cfgV g, .int .i64 z1] w (TruePost w) := by
  have hs1 : Below w.heap.size w (w.alloc (cfgO g)) := (Below.refl _ _).alloc (Nat.le_refl _) _
  have HG := Lib.hid hg
  have hkb := keepG_b g
  have HKB := Lib.hid hkb
  clear hg hkb
  simp only [cfgV]
  go_enter Tryd.func12, Tryd.ntmps12
  go_wp2_with fail
  rw [show Obj.cells #[.int .i64 (g 0), .int .i64 (g 1), .int .i64 (g 2), .int .i64 (g 3), .int .i64 (g 4), .int .i64 (g 5), .int .i64 (g 6), .int .i64 (g 7), .int .i64 (g 8)] 42 = cfgO g from rfl]
  generalize w.alloc (cfgO g) = W at hs1 ⊢
  have HB := Lib.hid hs1
  have HS := Lib.hid hs
  clear hs1 hs
  refine (kconfig g W HG.out).mono ?_
  rintro e W2 ⟨rfl, hB2⟩
  have HB2 := Lib.hid (HB.out.trans (hB2.mono HB.out.size))
  clear hB2
  generalize keepG g = h at *
  simp only [cfgV]
  have HOK := Lib.hid (keep_ok HKB.out)
  obtain ⟨L, hL⟩ : ∃ L : Nat, h 1 = L := ⟨(h 1).toNat, by have := HKB.out.b1; omega⟩
  have hL6 : 1 ≤ L ∧ L ≤ 6 := by have := HKB.out.b1; omega
  have hw4 : wrap64 (h 1 * 4) = h 1 * 4 := IntWalk.wrap64_in _ (by omega)
  have HL := Lib.hid hL
  clear hL
  go_wp2_with fail
  rw [show Obj.cells #[.int .i64 (h 0), .int .i64 (h 1), .int .i64 (h 2), .int .i64 (h 3), .int .i64 (h 4), .int .i64 (h 5), .int .i64 (h 6), .int .i64 (h 7), .int .i64 (h 8)] 42 = cfgO h from rfl]
  have hY := heap_alloc_at W2 (cfgO h)
  have hBY : Below w.heap.size w (W2.alloc (cfgO h)) := HB2.out.alloc HB2.out.size _
  have hle : w.heap.size ≤ W2.heap.size := HB2.out.size
  generalize W2.alloc (cfgO h) = Y at hY hBY ⊢
  generalize W2.heap.size = b at *
  refine wp_region_lexA ⟨[], []⟩ (fun x => Below Y.heap.size Y x) (by kernel_rfl) (by kernel_rfl) (Below.refl _ _).drew ?_
  intro S hto hof hne
  have hlt := (Array.getElem?_eq_some_iff.1 hY).1
  have hx : ∀ x : Wd S, x.w.heap[b]? = some (cfgO h) := fun x => ((hto x).block b hlt).trans hY
  have x0 := fun x => (cfg_at (hx x)).1
  have x1 := fun x => (cfg_at (hx x)).2.1
  have x2 := fun x => (cfg_at (hx x)).2.2.1
  have x3 := fun x => (cfg_at (hx x)).2.2.2.1
  have x4 := fun x => (cfg_at (hx x)).2.2.2.2.1
  have x5 := fun x => (cfg_at (hx x)).2.2.2.2.2.1
  have x6 := fun x => (cfg_at (hx x)).2.2.2.2.2.2.1
  have x7 := fun x => (cfg_at (hx x)).2.2.2.2.2.2.2.1
  have x8 := fun x => (cfg_at (hx x)).2.2.2.2.2.2.2.2
  have Hof := Lib.hid hof
  have HY := Lib.hid hY
  have HBY := Lib.hid hBY
  clear hto hof hx hY hBY
  refine lexW_light 1 (by kernel_rfl) ?_
  simp only [List.take_succ_cons, List.take_zero, List.drop_succ_cons, List.drop_zero]
  repeat (first | go_big_quiet_skip | (go_big_quiet_want; go_big_quiet_op; go_big_quiet_on))
  refine wpQuiet_nil ?_
  refine lexW_heavy (by kernel_rfl) ?_
  go_wp2_with fail
  change Calls Tryd.prog _ #[cfgV h] _ _
  refine (gcheck A h _ (HS.out.below HBY.out.drew)).mono ?_
  rintro e X2 ⟨rfl, hb2⟩
  rw [show (cfgErr h).val A = .nilIface by rw [cfgErr, HOK.out]; rfl]
  have HX2 := Lib.hid (((Below.refl Y.heap.size Y).drew).trans hb2)
  clear hb2
  go_wp2_with fail
  refine lexQ_more (Hof.out _ HX2.out) ?_
  refine lexW_light 3 (by kernel_rfl) ?_
  simp only [List.take_succ_cons, List.take_zero, List.drop_succ_cons, List.drop_zero]
  repeat (first | go_big_quiet_skip | (go_big_quiet_want; go_big_quiet_op; go_big_quiet_on))
  refine wpQuiet_nil ?_
  refine lexW_heavy (by kernel_rfl) ?_
  go_wp2_with fail
  change Calls Tryd.prog _ #[cfgV h] _ _
  refine (gtotal A h _ (HS.out.below (HBY.out.trans (HX2.out.mono HBY.out.size)))).mono ?_
  rintro e X3 ⟨rfl, hb3⟩
  rw [show totalF h = h 1 * 4 by rw [totalF, HOK.out]]
  have HX3 := Lib.hid (HX2.out.trans (hb3.mono HX2.out.size))
  clear hb3
  go_wp2_with fail
  refine lexQ_more (Hof.out _ HX3.out) ?_
  refine lexW_light 5 (by kernel_rfl) ?_
  simp only [List.take_succ_cons, List.take_zero, List.drop_succ_cons, List.drop_zero]
  repeat (first | go_big_quiet_skip | (go_big_quiet_want; go_big_quiet_op; go_big_quiet_on))
  refine wpQuiet_nil ?_
  refine lexW_done ?_
  clear x0 x1 x2 x3 x4 x5 x6 x7 x8 hne
  go_wp2_with fail
  refine (Within_b z1 0 3 _ (by omega) (by omega) (by omega) b1.1 b1.2).mono ?_
  rintro e w' ⟨rfl, rfl⟩
  have hm := wiF_b (n := z1) (lo := 0) (hi := 3) (by omega)
  generalize wiF z1 0 3 = m at hm ⊢
  obtain ⟨k, hk, hshl⟩ : ∃ k : Nat, (k = 1 ∨ k = 2 ∨ k = 4 ∨ k = 8) ∧ wrap64 (2 ^ m.toNat) = k := by
    obtain rfl | rfl | rfl | rfl : m = 0 ∨ m = 1 ∨ m = 2 ∨ m = 3 := by omega
    · exact ⟨1, by omega, by kernel_rfl⟩
    · exact ⟨2, by omega, by kernel_rfl⟩
    · exact ⟨4, by omega, by kernel_rfl⟩
    · exact ⟨8, by omega, by kernel_rfl⟩
  go_wp2_with fail
  simp only [hshl]
  clear hshl
  have hX := (HX3.out.block b hlt).trans HY.out
  have hBX : Below w.heap.size w X3 := HBY.out.trans (HX3.out.mono HBY.out.size)
  have hbX := (Array.getElem?_eq_some_iff.1 hX).1
  clear hlt
  have hZ := heap_alloc_at X3 (.cells (manyA (cntW k 0)) 50)
  have hbZ := (Below.heap_alloc X3 (.cells (manyA (cntW k 0)) 50) b hbX).trans hX
  have hBZ : Below w.heap.size w (X3.alloc (.cells (manyA (cntW k 0)) 50)) := hBX.alloc hBX.size _
  rw [show X3.alloc (.cells #[.int .i64 0, .int .i64 0, .int .i64 0, .int .i64 0, .int .i64 0, .int .i64 0, .int .i64 0, .int .i64 0] 50) = X3.alloc (.cells (manyA (cntW k 0)) 50) from rfl]
  have hbm : w.heap.size ≤ X3.heap.size := hBX.size
  generalize X3.alloc (.cells (manyA (cntW k 0)) 50) = Z at hZ hbZ hBZ ⊢
  have hne : b ≠ X3.heap.size := by omega
  clear hX hBX hbX
  generalize X3.heap.size = bm at *
  go_loopw [8] (fun i wr => ∃ a : Nat, a ≤ 4 * L ∧ i = .int .i64 a ∧ wr.heap[b]? = some (cfgO h) ∧ wr.heap[bm]? = some (.cells (manyA (cntW k a)) 50) ∧ Below w.heap.size w wr) (fun i _ => 4 * L - (intOf i).toNat)
  case atStart => exact ⟨0, by omega, rfl, hbZ, hZ, hBZ⟩
  case round =>
    clear hZ hbZ hBZ
    obtain ⟨a, ha, rfl, hb, hmm, hB⟩ := hrel
    obtain ⟨x0, x1, x2, x3, x4, x5, x6, x7, x8⟩ := cfg_at hb
    go_wp2_with fail
    change Calls Tryd.prog _ #[cfgV h] _ _
    refine (gtotal A h _ (HS.out.below hB)).mono ?_
    rintro e w2 ⟨rfl, hb2⟩
    rw [show totalF h = h 1 * 4 by rw [totalF, HOK.out]]
    have hb2' := (hb2.block b (Array.getElem?_eq_some_iff.1 hb).1).trans hb
    have hm2 := (hb2.block bm (Array.getElem?_eq_some_iff.1 hmm).1).trans hmm
    have hB2 := hB.trans (hb2.mono hB.size)
    have hL1 := HL.out
    have y1 := (cfg_at hb2').2.1
    clear x0 x1 x2 x3 x4 x5 x6 x7 x8 hb2 hb hmm hB
    have hb2 := hb2'
    clear hb2'
    by_cases hal : a < 4 * L
    · obtain ⟨l, hl⟩ : ∃ l, l = a / 4 := ⟨_, rfl⟩
      obtain ⟨q, hq⟩ : ∃ q, q = a % 4 := ⟨_, rfl⟩
      have hlq : 4 * l + q = a := by omega
      have hq4 : q < 4 := by omega
      have hlL : l < L := by omega
      have HLN := Lib.hid (show lineF (a : Int) = (l : Int) by rw [lineF_if, if_pos (by omega)]; omega)
      have HWD := Lib.hid (show wordF (a : Int) = (q : Int) by rw [wordF_if, if_pos (by omega)]; omega)
      have HAD := Lib.hid (show addrF (l : Int) (q : Int) = (a : Int) by rw [addrF_if, if_pos (by omega)]; omega)
      have HST := Lib.hid (show setF (l : Int) (k : Int) = ((l % k : Nat) : Int) by rw [setF_if, if_pos (by omega)]; exact (Int.natCast_emod l k).symm)
      obtain ⟨sn, hsn⟩ : ∃ sn, sn = l % k := ⟨_, rfl⟩
      have hsk : sn < k := hsn ▸ Nat.mod_lt _ (by omega)
      have HSL := Lib.hid (show a / 4 % k = sn by rw [hsn, hl])
      have hcl := cntW_le k a sn
      have s1 : decide ((sn : Int) < 0) = false := by simp
      have s2 : decide ((sn : Int) ≥ (k : Int)) = false := by simp; omega
      have hs8 : sn < 8 := by omega
      have m1 := (cell_of hm2 sn).trans (manyA_at _ hs8)
      have m2 : w2.frozen? ⟨bm, sn, none⟩ = false := by simp [World.frozen?, hm2]
      have m3 : wrap64 ((cntW k a sn : Int) + 1) = (cntW k a sn : Int) + 1 := IntWalk.wrap64_in _ (by omega)
      have g0 : decide ((a : Int) < h 1 * 4) = true := by simp; omega
      have g1 : decide ((l : Int) < 0) = false := by simp
      have g2 : decide ((l : Int) ≥ h 1) = false := by simp; omega
      have g3 : decide ((q : Int) < 0) = false := by simp
      have g4 : decide ((q : Int) ≥ 4) = false := by simp; omega
      have G0 := Lib.hid hL1
      have HSN := Lib.hid hsn
      clear hL1 hl hq hsn
      go_wp2_with fail
      refine (gline _ _).mono ?_
      rintro e w' ⟨rfl, rfl⟩
      rw [HLN.out]
      go_wp2_with fail
      refine (gword _ _).mono ?_
      rintro e w' ⟨rfl, rfl⟩
      rw [HWD.out]
      go_wp2_with fail
      refine (gaddr _ _ _).mono ?_
      rintro e w' ⟨rfl, rfl⟩
      rw [HAD.out]
      by_cases hq0 : q = 0
      · subst hq0
        by_cases ha0 : 0 < a
        · have g5 : decide ((a : Int) > 0) = true := by simpa using ha0
          have g6 : wrap64 ((a : Int) - 1) = (a : Int) - 1 := IntWalk.wrap64_in _ (by omega)
          have g7 : wrap64 ((l : Int) - 1) = (l : Int) - 1 := IntWalk.wrap64_in _ (by omega)
          have HLM := Lib.hid (show lineF ((a : Int) - 1) = (l : Int) - 1 by rw [lineF_if, if_pos (by omega)]; omega)
          go_wp2_with fail
          refine (gline _ _).mono ?_
          rintro e w' ⟨rfl, rfl⟩
          rw [HLM.out]
          go_wp2_with fail
          refine (gset _ _ _).mono ?_
          rintro e w' ⟨rfl, rfl⟩
          rw [HST.out, ← HSN.out]
          go_wp2_with fail
          go_roundw
          case measure => simp [intOf]; omega
          case rel =>
            refine ⟨a + 1, by omega, by go_num, ?_, ?_, hB2.setCell hbm _⟩
            · rw [Below.heap_setCell _ _ _ _ hne]
              exact hb2
            · rw [heap_setCell_at hm2, manyA_set _ hs8, ← HSL.out]
              rfl
        · have g5 : decide ((a : Int) > 0) = false := by simpa using ha0
          go_wp2_with fail
          refine (gset _ _ _).mono ?_
          rintro e w' ⟨rfl, rfl⟩
          rw [HST.out, ← HSN.out]
          go_wp2_with fail
          go_roundw
          case measure => simp [intOf]; omega
          case rel =>
            refine ⟨a + 1, by omega, by go_num, ?_, ?_, hB2.setCell hbm _⟩
            · rw [Below.heap_setCell _ _ _ _ hne]
              exact hb2
            · rw [heap_setCell_at hm2, manyA_set _ hs8, ← HSL.out]
              rfl
      · have g5 : ((q : Int) == 0) = false := by simpa using hq0
        go_wp2_with fail
        refine (gset _ _ _).mono ?_
        rintro e w' ⟨rfl, rfl⟩
        rw [HST.out, ← HSN.out]
        go_wp2_with fail
        go_roundw
        case measure => simp [intOf]; omega
        case rel =>
          refine ⟨a + 1, by omega, by go_num, ?_, ?_, hB2.setCell hbm _⟩
          · rw [Below.heap_setCell _ _ _ _ hne]
            exact hb2
          · rw [heap_setCell_at hm2, manyA_set _ hs8, ← HSL.out]
            rfl
    · have HA4 := Lib.hid (show a = 4 * L by omega)
      have g0 : decide ((a : Int) < h 1 * 4) = false := by simp; omega
      have HL1 := Lib.hid hL1
      clear hL1
      go_wp2_with fail
      go_loopw [12] (fun i wr => ∃ s : Nat, s ≤ k ∧ i = .int .i64 s ∧ wr.heap[b]? = some (cfgO h) ∧ wr.heap[bm]? = some (.cells (manyA (cntW k a)) 50) ∧ Below w.heap.size w wr) (fun i _ => k - (intOf i).toNat)
      case atStart => exact ⟨0, by omega, rfl, hb2, hm2, hB2⟩
      case round =>
        clear hb2 hm2 hB2 y1
        obtain ⟨s, hs, rfl, hb, hmm, hB⟩ := hrel
        by_cases hsk : s < k
        · have y1 := (cfg_at hb).2.1
          have m1 := (cell_of hmm s).trans (manyA_at _ (by omega))
          have hcl := cntW_le k a s
          have hw := whole_ok k (by rcases hk with rfl | rfl | rfl | rfl <;> simp) L (by simp; omega) s (by simp; omega) hsk
          rw [← HA4.out] at hw
          have lb := (Array.getElem?_eq_some_iff.1 hb).1
          have lm := (Array.getElem?_eq_some_iff.1 hmm).1
          have HBM := Lib.hid hmm
          have HBB := Lib.hid hb
          have HBW := Lib.hid hB
          clear hmm hb hB
          generalize cntW k a s = cn at *
          have q1 : wrap64 (h 1 + (k : Int)) = h 1 + (k : Int) := IntWalk.wrap64_in _ (by have := HL1.out; omega)
          have q2 : wrap64 (h 1 + (k : Int) - 1) = h 1 + (k : Int) - 1 := IntWalk.wrap64_in _ (by have := HL1.out; omega)
          have q3 : wrap64 (h 1 + (k : Int) - 1 - (s : Int)) = h 1 + (k : Int) - 1 - (s : Int) := IntWalk.wrap64_in _ (by have := HL1.out; omega)
          have q4 : ((k : Int) == 0) = false := by simp; omega
          go_wp2_with fail
          refine wp_region_lexA ⟨[], []⟩ (fun x => Below wr.heap.size wr x) (by kernel_rfl) (by kernel_rfl) (Below.refl _ _).drew ?_
          intro S hto hof hne
          have x1 : ∀ z : Wd S, z.w.cell? ⟨bm, s, none⟩ = some (.int .i64 cn) := fun z => ((hto z).cell (p := ⟨bm, s, none⟩) lm).trans m1
          have x2 : ∀ z : Wd S, z.w.cell? ⟨b, 1, none⟩ = some (.int .i64 (h 1)) := fun z => ((hto z).cell (p := ⟨b, 1, none⟩) lb).trans y1
          have Hof := Lib.hid hof
          clear hto hof m1 y1
          have e1 : h 1 + (k : Int) - 1 - (s : Int) = ((L + k - 1 - s : Nat) : Int) := by have := HL1.out; omega
          have e2 : ((L + k - 1 - s : Nat) : Int).tdiv (k : Int) = ((cn / 4 : Nat) : Int) := by rw [hw]; rfl
          have q5 : ((cn : Int) / 4 != wrap64 ((h 1 + (k : Int) - 1 - (s : Int)).tdiv (k : Int))) = false := by
            rw [e1, e2, IntWalk.wrap64_in _ (by omega), show ((cn / 4 : Nat) : Int) = (cn : Int) / 4 by omega]
            simp
          clear e1 e2 hw
          refine lexW_light 14 (by kernel_rfl) ?_
          simp only [List.take_succ_cons, List.take_zero, List.drop_succ_cons, List.drop_zero]
          repeat (first | go_big_quiet_skip | (go_big_quiet_want; go_big_quiet_op; go_big_quiet_on))
          refine wpQuiet_nil ?_
          refine lexW_done ?_
          go_wp2_with fail
          go_roundw
          case measure => simp [intOf]; omega
          case rel => exact ⟨s + 1, by omega, by go_num, HBB.out, HBM.out, HBW.out.drew⟩
        · go_wp2_with fail
          refine (geomRuns A _ (HS.out.below hB)).mono ?_
          rintro e w4 ⟨rfl, hb4⟩
          go_wp2_with fail
          go_ret
          exact ⟨rfl, hB.trans (hb4.mono hB.size)⟩

end Go.Proofs.YtaecihljgbjmcaaDoor
