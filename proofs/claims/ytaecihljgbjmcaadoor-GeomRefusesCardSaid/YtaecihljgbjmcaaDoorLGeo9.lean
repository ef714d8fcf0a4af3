/- GeomRefuses: the walk. -/
import Derived.Test.YtaecihljgbjmcaaDoorLGeo8
namespace Go.Proofs.YtaecihljgbjmcaaDoor
open Go.RowKit

set_option maxRecDepth 100000 in
set_option maxHeartbeats 8000000 in
theorem geomRefuses_true {A : Nat → Addr} (g : Nat → Int) (z1 : Int) (w : World) (hs : SentAt w A) (hg : ∀ j, j < 9 → -9223372036854775808 ≤ g j ∧ g j ≤ 9223372036854775807) (b1 : -9223372036854775808 ≤ z1 ∧ z1 ≤ 9223372036854775807) :
    Calls Tryd.prog 13 #[cfgV g, .int .i64 z1, .bool true] w (TruePost w) := by
  have hblk := heap_alloc_at w (cfgO g)
  have hs1 : Below w.heap.size w (w.alloc (cfgO g)) := (Below.refl _ _).alloc (Nat.le_refl _) _
  have hz : (w.alloc (cfgO g)).heap.size = w.heap.size + 1 := by simp
  have HG := Lib.hid hg
  have hkb := keepG_b g
  have HKB := Lib.hid hkb
  clear hg hkb
  simp only [cfgV]
  go_enter Tryd.func13, Tryd.ntmps13
  go_wp2_with fail
  rw [show Obj.cells #[.int .i64 (g 0), .int .i64 (g 1), .int .i64 (g 2), .int .i64 (g 3), .int .i64 (g 4), .int .i64 (g 5), .int .i64 (g 6), .int .i64 (g 7), .int .i64 (g 8)] 42 = cfgO g from rfl]
  generalize w.alloc (cfgO g) = W at hblk hs1 hz ⊢
  have HZ := Lib.hid hz
  have HB := Lib.hid hs1
  have HS := Lib.hid hs
  clear hz hs1 hs
  refine (kconfig g W HG.out).mono ?_
  rintro e W2 ⟨rfl, hB2⟩
  have HB2 := Lib.hid (HB.out.trans (hB2.mono HB.out.size))
  clear hB2 hblk
  generalize keepG g = h at *
  simp only [cfgV]
  go_wp2_with fail
  rw [show Obj.cells #[.int .i64 (h 0), .int .i64 (h 1), .int .i64 (h 2), .int .i64 (h 3), .int .i64 (h 4), .int .i64 (h 5), .int .i64 (h 6), .int .i64 (h 7), .int .i64 (h 8)] 42 = cfgO h from rfl]
  have hY := heap_alloc_at W2 (cfgO h)
  have hBY : Below w.heap.size w (W2.alloc (cfgO h)) := HB2.out.alloc HB2.out.size _
  have hzY : (W2.alloc (cfgO h)).heap.size = W2.heap.size + 1 := by simp
  have hle : w.heap.size ≤ W2.heap.size := HB2.out.size
  generalize W2.alloc (cfgO h) = Y at hY hBY hzY ⊢
  generalize W2.heap.size = b at *
  refine (Within_b _ _ _ _ (by omega) (by omega) (by omega) b1.1 b1.2).mono ?_
  rintro e w' ⟨rfl, rfl⟩
  have hk := wiF_b (n := z1) (lo := 0) (hi := 8) (by omega)
  generalize wiF z1 0 8 = k at *
  have hcs := cfg_at hY
  have hfz : ∀ j, Y.frozen? ⟨b, j, none⟩ = false := fun j => by simp [World.frozen?, hY, cfgO]
  have hlt : b < Y.heap.size := by omega
  have HHY := Lib.hid hY
  have HBY := Lib.hid hBY
  have HZY := Lib.hid hzY
  clear hY hBY hzY
  obtain rfl | rfl | rfl | rfl | rfl | rfl | rfl | rfl | rfl : k = 0 ∨ k = 1 ∨ k = 2 ∨ k = 3 ∨ k = 4 ∨ k = 5 ∨ k = 6 ∨ k = 7 ∨ k = 8 := by omega
  · go_wp2_with fail
    have hb : badAt (setK h 0 65) = some 0 := keep_bad HKB.out (k := 0) (by omega) (n := 65) (.inr rfl)
    change Calls Tryd.prog _ #[cfgV (setK h 0 65)] (refW Y b 0 65 (h 7)) _
    have hXb := refW_at (k := 0) (n := 65) (h7 := h 7) HHY.out (by omega)
    have hBX := refW_below (b := b) (k := 0) (n := 65) (h7 := h 7) HBY.out hle
    generalize refW Y b 0 65 (h 7) = X at hXb hBX ⊢
    refine (gcheck A (setK h 0 65) X (HS.out.below hBX)).mono ?_
    rintro e X2 ⟨rfl, hb2⟩
    rw [show cfgErr (setK h 0 65) = .wrap gcT 0 (.sent 0) by rw [cfgErr, hb]; rfl]
    have hB2 := hBX.trans (hb2.mono hBX.size)
    have hXb2 := (hb2.block b (Array.getElem?_eq_some_iff.1 hXb).1).trans hXb
    have HE := Lib.hid (show (ErrT.wrap gcT 0 (.sent 0)).val A = .iface 74 (.agg #[.string gcT, .int .i64 0, (ErrT.sent 0).val A]) from rfl)
    rw [HE.out]
    clear hb2 hXb hBX
    go_wp2_with fail
    rw [← HE.out]
    refine (is_c A (.wrap gcT 0 (.sent 0)) 1 gcT 0 _ (HS.out.below hB2) ⟨rfl, by simp [ErrT.wf]⟩ (by omega) (by omega)).mono ?_
    rintro e X3 ⟨rfl, hb3⟩
    rw [show isK (.wrap gcT 0 (.sent 0)) 1 gcT 0 = true from by simp [isK, ErrT.code], HE.out]
    have hB3 := hB2.trans (hb3.mono hB2.size)
    obtain ⟨x0, x1, x2, x3, x4, x5, x6, x7, x8⟩ := cfg_at ((hb3.block b (Array.getElem?_eq_some_iff.1 hXb2).1).trans hXb2)
    clear hb3 hXb2 hB2
    go_wp2_with fail
    change Calls Tryd.prog _ #[cfgV (setK h 0 65)] _ _
    refine (gtotal A (setK h 0 65) X3 (HS.out.below hB3)).mono ?_
    rintro e X4 ⟨rfl, hb4⟩
    rw [show totalF (setK h 0 65) = 0 by simp [totalF, hb]]
    have hB4 := hB3.trans (hb4.mono hB3.size)
    clear x0 x1 x2 x3 x4 x5 x6 x7 x8 hb4 hB3
    go_wp2_with fail
    refine (geomRuns A X4 (HS.out.below hB4)).mono ?_
    rintro e X5 ⟨rfl, hb5⟩
    go_wp2_with fail
    go_ret
    exact ⟨rfl, hB4.trans (hb5.mono hB4.size)⟩
  · go_wp2_with fail
    have hb : badAt (setK h 1 33) = some 1 := keep_bad HKB.out (k := 1) (by omega) (n := 33) (.inr rfl)
    change Calls Tryd.prog _ #[cfgV (setK h 1 33)] (refW Y b 1 33 (h 7)) _
    have hXb := refW_at (k := 1) (n := 33) (h7 := h 7) HHY.out (by omega)
    have hBX := refW_below (b := b) (k := 1) (n := 33) (h7 := h 7) HBY.out hle
    generalize refW Y b 1 33 (h 7) = X at hXb hBX ⊢
    refine (gcheck A (setK h 1 33) X (HS.out.below hBX)).mono ?_
    rintro e X2 ⟨rfl, hb2⟩
    rw [show cfgErr (setK h 1 33) = .wrap gcT 1 (.sent 0) by rw [cfgErr, hb]; rfl]
    have hB2 := hBX.trans (hb2.mono hBX.size)
    have hXb2 := (hb2.block b (Array.getElem?_eq_some_iff.1 hXb).1).trans hXb
    have HE := Lib.hid (show (ErrT.wrap gcT 1 (.sent 0)).val A = .iface 74 (.agg #[.string gcT, .int .i64 1, (ErrT.sent 0).val A]) from rfl)
    rw [HE.out]
    clear hb2 hXb hBX
    go_wp2_with fail
    rw [← HE.out]
    refine (is_c A (.wrap gcT 1 (.sent 0)) 1 gcT 1 _ (HS.out.below hB2) ⟨rfl, by simp [ErrT.wf]⟩ (by omega) (by omega)).mono ?_
    rintro e X3 ⟨rfl, hb3⟩
    rw [show isK (.wrap gcT 1 (.sent 0)) 1 gcT 1 = true from by simp [isK, ErrT.code], HE.out]
    have hB3 := hB2.trans (hb3.mono hB2.size)
    obtain ⟨x0, x1, x2, x3, x4, x5, x6, x7, x8⟩ := cfg_at ((hb3.block b (Array.getElem?_eq_some_iff.1 hXb2).1).trans hXb2)
    clear hb3 hXb2 hB2
    go_wp2_with fail
    change Calls Tryd.prog _ #[cfgV (setK h 1 33)] _ _
    refine (gtotal A (setK h 1 33) X3 (HS.out.below hB3)).mono ?_
    rintro e X4 ⟨rfl, hb4⟩
    rw [show totalF (setK h 1 33) = 0 by simp [totalF, hb]]
    have hB4 := hB3.trans (hb4.mono hB3.size)
    clear x0 x1 x2 x3 x4 x5 x6 x7 x8 hb4 hB3
    go_wp2_with fail
    refine (geomRuns A X4 (HS.out.below hB4)).mono ?_
    rintro e X5 ⟨rfl, hb5⟩
    go_wp2_with fail
    go_ret
    exact ⟨rfl, hB4.trans (hb5.mono hB4.size)⟩
  · go_wp2_with fail
    have hb : badAt (setK h 2 16) = some 2 := keep_bad HKB.out (k := 2) (by omega) (n := 16) (.inr rfl)
    change Calls Tryd.prog _ #[cfgV (setK h 2 16)] (refW Y b 2 16 (h 7)) _
    have hXb := refW_at (k := 2) (n := 16) (h7 := h 7) HHY.out (by omega)
    have hBX := refW_below (b := b) (k := 2) (n := 16) (h7 := h 7) HBY.out hle
    generalize refW Y b 2 16 (h 7) = X at hXb hBX ⊢
    refine (gcheck A (setK h 2 16) X (HS.out.below hBX)).mono ?_
    rintro e X2 ⟨rfl, hb2⟩
    rw [show cfgErr (setK h 2 16) = .wrap gcT 2 (.sent 0) by rw [cfgErr, hb]; rfl]
    have hB2 := hBX.trans (hb2.mono hBX.size)
    have hXb2 := (hb2.block b (Array.getElem?_eq_some_iff.1 hXb).1).trans hXb
    have HE := Lib.hid (show (ErrT.wrap gcT 2 (.sent 0)).val A = .iface 74 (.agg #[.string gcT, .int .i64 2, (ErrT.sent 0).val A]) from rfl)
    rw [HE.out]
    clear hb2 hXb hBX
    go_wp2_with fail
    rw [← HE.out]
    refine (is_c A (.wrap gcT 2 (.sent 0)) 1 gcT 2 _ (HS.out.below hB2) ⟨rfl, by simp [ErrT.wf]⟩ (by omega) (by omega)).mono ?_
    rintro e X3 ⟨rfl, hb3⟩
    rw [show isK (.wrap gcT 2 (.sent 0)) 1 gcT 2 = true from by simp [isK, ErrT.code], HE.out]
    have hB3 := hB2.trans (hb3.mono hB2.size)
    obtain ⟨x0, x1, x2, x3, x4, x5, x6, x7, x8⟩ := cfg_at ((hb3.block b (Array.getElem?_eq_some_iff.1 hXb2).1).trans hXb2)
    clear hb3 hXb2 hB2
    go_wp2_with fail
    change Calls Tryd.prog _ #[cfgV (setK h 2 16)] _ _
    refine (gtotal A (setK h 2 16) X3 (HS.out.below hB3)).mono ?_
    rintro e X4 ⟨rfl, hb4⟩
    rw [show totalF (setK h 2 16) = 0 by simp [totalF, hb]]
    have hB4 := hB3.trans (hb4.mono hB3.size)
    clear x0 x1 x2 x3 x4 x5 x6 x7 x8 hb4 hB3
    go_wp2_with fail
    refine (geomRuns A X4 (HS.out.below hB4)).mono ?_
    rintro e X5 ⟨rfl, hb5⟩
    go_wp2_with fail
    go_ret
    exact ⟨rfl, hB4.trans (hb5.mono hB4.size)⟩
  · go_wp2_with fail
    have hb : badAt (setK h 3 16) = some 3 := keep_bad HKB.out (k := 3) (by omega) (n := 16) (.inr rfl)
    change Calls Tryd.prog _ #[cfgV (setK h 3 16)] (refW Y b 3 16 (h 7)) _
    have hXb := refW_at (k := 3) (n := 16) (h7 := h 7) HHY.out (by omega)
    have hBX := refW_below (b := b) (k := 3) (n := 16) (h7 := h 7) HBY.out hle
    generalize refW Y b 3 16 (h 7) = X at hXb hBX ⊢
    refine (gcheck A (setK h 3 16) X (HS.out.below hBX)).mono ?_
    rintro e X2 ⟨rfl, hb2⟩
    rw [show cfgErr (setK h 3 16) = .wrap gcT 3 (.sent 0) by rw [cfgErr, hb]; rfl]
    have hB2 := hBX.trans (hb2.mono hBX.size)
    have hXb2 := (hb2.block b (Array.getElem?_eq_some_iff.1 hXb).1).trans hXb
    have HE := Lib.hid (show (ErrT.wrap gcT 3 (.sent 0)).val A = .iface 74 (.agg #[.string gcT, .int .i64 3, (ErrT.sent 0).val A]) from rfl)
    rw [HE.out]
    clear hb2 hXb hBX
    go_wp2_with fail
    rw [← HE.out]
    refine (is_c A (.wrap gcT 3 (.sent 0)) 1 gcT 3 _ (HS.out.below hB2) ⟨rfl, by simp [ErrT.wf]⟩ (by omega) (by omega)).mono ?_
    rintro e X3 ⟨rfl, hb3⟩
    rw [show isK (.wrap gcT 3 (.sent 0)) 1 gcT 3 = true from by simp [isK, ErrT.code], HE.out]
    have hB3 := hB2.trans (hb3.mono hB2.size)
    obtain ⟨x0, x1, x2, x3, x4, x5, x6, x7, x8⟩ := cfg_at ((hb3.block b (Array.getElem?_eq_some_iff.1 hXb2).1).trans hXb2)
    clear hb3 hXb2 hB2
    go_wp2_with fail
    change Calls Tryd.prog _ #[cfgV (setK h 3 16)] _ _
    refine (gtotal A (setK h 3 16) X3 (HS.out.below hB3)).mono ?_
    rintro e X4 ⟨rfl, hb4⟩
    rw [show totalF (setK h 3 16) = 0 by simp [totalF, hb]]
    have hB4 := hB3.trans (hb4.mono hB3.size)
    clear x0 x1 x2 x3 x4 x5 x6 x7 x8 hb4 hB3
    go_wp2_with fail
    refine (geomRuns A X4 (HS.out.below hB4)).mono ?_
    rintro e X5 ⟨rfl, hb5⟩
    go_wp2_with fail
    go_ret
    exact ⟨rfl, hB4.trans (hb5.mono hB4.size)⟩
  · go_wp2_with fail
    have hb : badAt (setK h 4 9) = some 4 := keep_bad HKB.out (k := 4) (by omega) (n := 9) (.inr rfl)
    change Calls Tryd.prog _ #[cfgV (setK h 4 9)] (refW Y b 4 9 (h 7)) _
    have hXb := refW_at (k := 4) (n := 9) (h7 := h 7) HHY.out (by omega)
    have hBX := refW_below (b := b) (k := 4) (n := 9) (h7 := h 7) HBY.out hle
    generalize refW Y b 4 9 (h 7) = X at hXb hBX ⊢
    refine (gcheck A (setK h 4 9) X (HS.out.below hBX)).mono ?_
    rintro e X2 ⟨rfl, hb2⟩
    rw [show cfgErr (setK h 4 9) = .wrap gcT 4 (.sent 0) by rw [cfgErr, hb]; rfl]
    have hB2 := hBX.trans (hb2.mono hBX.size)
    have hXb2 := (hb2.block b (Array.getElem?_eq_some_iff.1 hXb).1).trans hXb
    have HE := Lib.hid (show (ErrT.wrap gcT 4 (.sent 0)).val A = .iface 74 (.agg #[.string gcT, .int .i64 4, (ErrT.sent 0).val A]) from rfl)
    rw [HE.out]
    clear hb2 hXb hBX
    go_wp2_with fail
    rw [← HE.out]
    refine (is_c A (.wrap gcT 4 (.sent 0)) 1 gcT 4 _ (HS.out.below hB2) ⟨rfl, by simp [ErrT.wf]⟩ (by omega) (by omega)).mono ?_
    rintro e X3 ⟨rfl, hb3⟩
    rw [show isK (.wrap gcT 4 (.sent 0)) 1 gcT 4 = true from by simp [isK, ErrT.code], HE.out]
    have hB3 := hB2.trans (hb3.mono hB2.size)
    obtain ⟨x0, x1, x2, x3, x4, x5, x6, x7, x8⟩ := cfg_at ((hb3.block b (Array.getElem?_eq_some_iff.1 hXb2).1).trans hXb2)
    clear hb3 hXb2 hB2
    go_wp2_with fail
    change Calls Tryd.prog _ #[cfgV (setK h 4 9)] _ _
    refine (gtotal A (setK h 4 9) X3 (HS.out.below hB3)).mono ?_
    rintro e X4 ⟨rfl, hb4⟩
    rw [show totalF (setK h 4 9) = 0 by simp [totalF, hb]]
    have hB4 := hB3.trans (hb4.mono hB3.size)
    clear x0 x1 x2 x3 x4 x5 x6 x7 x8 hb4 hB3
    go_wp2_with fail
    refine (geomRuns A X4 (HS.out.below hB4)).mono ?_
    rintro e X5 ⟨rfl, hb5⟩
    go_wp2_with fail
    go_ret
    exact ⟨rfl, hB4.trans (hb5.mono hB4.size)⟩
  · go_wp2_with fail
    have hb : badAt (setK h 5 9) = some 5 := keep_bad HKB.out (k := 5) (by omega) (n := 9) (.inr rfl)
    change Calls Tryd.prog _ #[cfgV (setK h 5 9)] (refW Y b 5 9 (h 7)) _
    have hXb := refW_at (k := 5) (n := 9) (h7 := h 7) HHY.out (by omega)
    have hBX := refW_below (b := b) (k := 5) (n := 9) (h7 := h 7) HBY.out hle
    generalize refW Y b 5 9 (h 7) = X at hXb hBX ⊢
    refine (gcheck A (setK h 5 9) X (HS.out.below hBX)).mono ?_
    rintro e X2 ⟨rfl, hb2⟩
    rw [show cfgErr (setK h 5 9) = .wrap gcT 5 (.sent 0) by rw [cfgErr, hb]; rfl]
    have hB2 := hBX.trans (hb2.mono hBX.size)
    have hXb2 := (hb2.block b (Array.getElem?_eq_some_iff.1 hXb).1).trans hXb
    have HE := Lib.hid (show (ErrT.wrap gcT 5 (.sent 0)).val A = .iface 74 (.agg #[.string gcT, .int .i64 5, (ErrT.sent 0).val A]) from rfl)
    rw [HE.out]
    clear hb2 hXb hBX
    go_wp2_with fail
    rw [← HE.out]
    refine (is_c A (.wrap gcT 5 (.sent 0)) 1 gcT 5 _ (HS.out.below hB2) ⟨rfl, by simp [ErrT.wf]⟩ (by omega) (by omega)).mono ?_
    rintro e X3 ⟨rfl, hb3⟩
    rw [show isK (.wrap gcT 5 (.sent 0)) 1 gcT 5 = true from by simp [isK, ErrT.code], HE.out]
    have hB3 := hB2.trans (hb3.mono hB2.size)
    obtain ⟨x0, x1, x2, x3, x4, x5, x6, x7, x8⟩ := cfg_at ((hb3.block b (Array.getElem?_eq_some_iff.1 hXb2).1).trans hXb2)
    clear hb3 hXb2 hB2
    go_wp2_with fail
    change Calls Tryd.prog _ #[cfgV (setK h 5 9)] _ _
    refine (gtotal A (setK h 5 9) X3 (HS.out.below hB3)).mono ?_
    rintro e X4 ⟨rfl, hb4⟩
    rw [show totalF (setK h 5 9) = 0 by simp [totalF, hb]]
    have hB4 := hB3.trans (hb4.mono hB3.size)
    clear x0 x1 x2 x3 x4 x5 x6 x7 x8 hb4 hB3
    go_wp2_with fail
    refine (geomRuns A X4 (HS.out.below hB4)).mono ?_
    rintro e X5 ⟨rfl, hb5⟩
    go_wp2_with fail
    go_ret
    exact ⟨rfl, hB4.trans (hb5.mono hB4.size)⟩
  · go_wp2_with fail
    have hb : badAt (setK h 6 65) = some 6 := keep_bad HKB.out (k := 6) (by omega) (n := 65) (.inr rfl)
    change Calls Tryd.prog _ #[cfgV (setK h 6 65)] (refW Y b 6 65 (h 7)) _
    have hXb := refW_at (k := 6) (n := 65) (h7 := h 7) HHY.out (by omega)
    have hBX := refW_below (b := b) (k := 6) (n := 65) (h7 := h 7) HBY.out hle
    generalize refW Y b 6 65 (h 7) = X at hXb hBX ⊢
    refine (gcheck A (setK h 6 65) X (HS.out.below hBX)).mono ?_
    rintro e X2 ⟨rfl, hb2⟩
    rw [show cfgErr (setK h 6 65) = .wrap gcT 6 (.sent 0) by rw [cfgErr, hb]; rfl]
    have hB2 := hBX.trans (hb2.mono hBX.size)
    have hXb2 := (hb2.block b (Array.getElem?_eq_some_iff.1 hXb).1).trans hXb
    have HE := Lib.hid (show (ErrT.wrap gcT 6 (.sent 0)).val A = .iface 74 (.agg #[.string gcT, .int .i64 6, (ErrT.sent 0).val A]) from rfl)
    rw [HE.out]
    clear hb2 hXb hBX
    go_wp2_with fail
    rw [← HE.out]
    refine (is_c A (.wrap gcT 6 (.sent 0)) 1 gcT 6 _ (HS.out.below hB2) ⟨rfl, by simp [ErrT.wf]⟩ (by omega) (by omega)).mono ?_
    rintro e X3 ⟨rfl, hb3⟩
    rw [show isK (.wrap gcT 6 (.sent 0)) 1 gcT 6 = true from by simp [isK, ErrT.code], HE.out]
    have hB3 := hB2.trans (hb3.mono hB2.size)
    obtain ⟨x0, x1, x2, x3, x4, x5, x6, x7, x8⟩ := cfg_at ((hb3.block b (Array.getElem?_eq_some_iff.1 hXb2).1).trans hXb2)
    clear hb3 hXb2 hB2
    go_wp2_with fail
    change Calls Tryd.prog _ #[cfgV (setK h 6 65)] _ _
    refine (gtotal A (setK h 6 65) X3 (HS.out.below hB3)).mono ?_
    rintro e X4 ⟨rfl, hb4⟩
    rw [show totalF (setK h 6 65) = 0 by simp [totalF, hb]]
    have hB4 := hB3.trans (hb4.mono hB3.size)
    clear x0 x1 x2 x3 x4 x5 x6 x7 x8 hb4 hB3
    go_wp2_with fail
    refine (geomRuns A X4 (HS.out.below hB4)).mono ?_
    rintro e X5 ⟨rfl, hb5⟩
    go_wp2_with fail
    go_ret
    exact ⟨rfl, hB4.trans (hb5.mono hB4.size)⟩
  · go_wp2_with fail
    have hb : badAt (setK h 7 16) = some 7 := keep_bad HKB.out (k := 7) (by omega) (n := 16) (.inr rfl)
    change Calls Tryd.prog _ #[cfgV (setK h 7 16)] (refW Y b 7 16 (h 7)) _
    have hXb := refW_at (k := 7) (n := 16) (h7 := h 7) HHY.out (by omega)
    have hBX := refW_below (b := b) (k := 7) (n := 16) (h7 := h 7) HBY.out hle
    generalize refW Y b 7 16 (h 7) = X at hXb hBX ⊢
    refine (gcheck A (setK h 7 16) X (HS.out.below hBX)).mono ?_
    rintro e X2 ⟨rfl, hb2⟩
    rw [show cfgErr (setK h 7 16) = .wrap gcT 7 (.sent 0) by rw [cfgErr, hb]; rfl]
    have hB2 := hBX.trans (hb2.mono hBX.size)
    have hXb2 := (hb2.block b (Array.getElem?_eq_some_iff.1 hXb).1).trans hXb
    have HE := Lib.hid (show (ErrT.wrap gcT 7 (.sent 0)).val A = .iface 74 (.agg #[.string gcT, .int .i64 7, (ErrT.sent 0).val A]) from rfl)
    rw [HE.out]
    clear hb2 hXb hBX
    go_wp2_with fail
    rw [← HE.out]
    refine (is_c A (.wrap gcT 7 (.sent 0)) 1 gcT 7 _ (HS.out.below hB2) ⟨rfl, by simp [ErrT.wf]⟩ (by omega) (by omega)).mono ?_
    rintro e X3 ⟨rfl, hb3⟩
    rw [show isK (.wrap gcT 7 (.sent 0)) 1 gcT 7 = true from by simp [isK, ErrT.code], HE.out]
    have hB3 := hB2.trans (hb3.mono hB2.size)
    obtain ⟨x0, x1, x2, x3, x4, x5, x6, x7, x8⟩ := cfg_at ((hb3.block b (Array.getElem?_eq_some_iff.1 hXb2).1).trans hXb2)
    clear hb3 hXb2 hB2
    go_wp2_with fail
    change Calls Tryd.prog _ #[cfgV (setK h 7 16)] _ _
    refine (gtotal A (setK h 7 16) X3 (HS.out.below hB3)).mono ?_
    rintro e X4 ⟨rfl, hb4⟩
    rw [show totalF (setK h 7 16) = 0 by simp [totalF, hb]]
    have hB4 := hB3.trans (hb4.mono hB3.size)
    clear x0 x1 x2 x3 x4 x5 x6 x7 x8 hb4 hB3
    go_wp2_with fail
    refine (geomRuns A X4 (HS.out.below hB4)).mono ?_
    rintro e X5 ⟨rfl, hb5⟩
    go_wp2_with fail
    go_ret
    exact ⟨rfl, hB4.trans (hb5.mono hB4.size)⟩
  · go_wp2_with fail
    have hb : badAt (setK h 8 (h 7)) = some 8 := keep_bad HKB.out (k := 8) (by omega) (n := (h 7)) (.inr HKB.out.b7)
    change Calls Tryd.prog _ #[cfgV (setK h 8 (h 7))] (refW Y b 8 (h 7) (h 7)) _
    have hXb := refW_at (k := 8) (n := (h 7)) (h7 := h 7) HHY.out (by omega)
    have hBX := refW_below (b := b) (k := 8) (n := (h 7)) (h7 := h 7) HBY.out hle
    generalize refW Y b 8 (h 7) (h 7) = X at hXb hBX ⊢
    refine (gcheck A (setK h 8 (h 7)) X (HS.out.below hBX)).mono ?_
    rintro e X2 ⟨rfl, hb2⟩
    rw [show cfgErr (setK h 8 (h 7)) = .wrap gcT 8 (.sent 0) by rw [cfgErr, hb]; rfl]
    have hB2 := hBX.trans (hb2.mono hBX.size)
    have hXb2 := (hb2.block b (Array.getElem?_eq_some_iff.1 hXb).1).trans hXb
    have HE := Lib.hid (show (ErrT.wrap gcT 8 (.sent 0)).val A = .iface 74 (.agg #[.string gcT, .int .i64 8, (ErrT.sent 0).val A]) from rfl)
    rw [HE.out]
    clear hb2 hXb hBX
    go_wp2_with fail
    rw [← HE.out]
    refine (is_c A (.wrap gcT 8 (.sent 0)) 1 gcT 8 _ (HS.out.below hB2) ⟨rfl, by simp [ErrT.wf]⟩ (by omega) (by omega)).mono ?_
    rintro e X3 ⟨rfl, hb3⟩
    rw [show isK (.wrap gcT 8 (.sent 0)) 1 gcT 8 = true from by simp [isK, ErrT.code], HE.out]
    have hB3 := hB2.trans (hb3.mono hB2.size)
    obtain ⟨x0, x1, x2, x3, x4, x5, x6, x7, x8⟩ := cfg_at ((hb3.block b (Array.getElem?_eq_some_iff.1 hXb2).1).trans hXb2)
    clear hb3 hXb2 hB2
    go_wp2_with fail
    change Calls Tryd.prog _ #[cfgV (setK h 8 (h 7))] _ _
    refine (gtotal A (setK h 8 (h 7)) X3 (HS.out.below hB3)).mono ?_
    rintro e X4 ⟨rfl, hb4⟩
    rw [show totalF (setK h 8 (h 7)) = 0 by simp [totalF, hb]]
    have hB4 := hB3.trans (hb4.mono hB3.size)
    clear x0 x1 x2 x3 x4 x5 x6 x7 x8 hb4 hB3
    go_wp2_with fail
    refine (geomRuns A X4 (HS.out.below hB4)).mono ?_
    rintro e X5 ⟨rfl, hb5⟩
    go_wp2_with fail
    go_ret
    exact ⟨rfl, hB4.trans (hb5.mono hB4.size)⟩

end Go.Proofs.YtaecihljgbjmcaaDoor
