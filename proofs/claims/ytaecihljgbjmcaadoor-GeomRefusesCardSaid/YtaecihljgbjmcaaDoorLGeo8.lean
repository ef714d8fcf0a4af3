/- GeomRefuses: the walk. -/
import Derived.Test.YtaecihljgbjmcaaDoorLGeo7
namespace Go.Proofs.YtaecihljgbjmcaaDoor
open Go.RowKit

/-- The world when one number has been set. -/
def refW (Y : World) (b k : Nat) (n h7 : Int) : World :=
  ((Y.setCell ⟨b, k, none⟩ (.int .i64 n)).alloc (.cells #[.int .i64 0, .int .i64 0, .int .i64 0, .int .i64 3, .int .i64 0, .int .i64 0, .int .i64 0, .int .i64 0, .int .i64 (-2)] 3)).alloc
    (.cells #[.int .i64 65, .int .i64 33, .int .i64 16, .int .i64 16, .int .i64 9, .int .i64 9, .int .i64 65, .int .i64 16, .int .i64 h7] 3)
theorem refW_at {Y : World} {b k : Nat} {n h7 : Int} {h : Nat → Int} (hY : Y.heap[b]? = some (cfgO h)) (hk : k < 9) : (refW Y b k n h7).heap[b]? = some (cfgO (setK h k n)) := by
  have hlt := (Array.getElem?_eq_some_iff.1 hY).1
  unfold refW
  rw [Below.heap_alloc _ _ _ (by simp; omega), Below.heap_alloc _ _ _ (by simpa using hlt), heap_setCell_at (cs := #[.int .i64 (h 0), .int .i64 (h 1), .int .i64 (h 2), .int .i64 (h 3), .int .i64 (h 4), .int .i64 (h 5), .int .i64 (h 6), .int .i64 (h 7), .int .i64 (h 8)]) hY]
  match k, hk with
  | 0, _ => rfl
  | 1, _ => rfl
  | 2, _ => rfl
  | 3, _ => rfl
  | 4, _ => rfl
  | 5, _ => rfl
  | 6, _ => rfl
  | 7, _ => rfl
  | 8, _ => rfl
theorem refW_below {w Y : World} {b k : Nat} {n h7 : Int} (hB : Below w.heap.size w Y) (hb : w.heap.size ≤ b) : Below w.heap.size w (refW Y b k n h7) := by
  have h1 : Below w.heap.size w (Y.setCell ⟨b, k, none⟩ (.int .i64 n)) := hB.setCell hb _
  exact (h1.alloc h1.size _).alloc (h1.alloc h1.size _).size _

set_option maxRecDepth 100000 in
set_option maxHeartbeats 8000000 in
theorem geomRefuses_false {A : Nat → Addr} (g : Nat → Int) (z1 : Int) (w : World) (hs : SentAt w A) (hg : ∀ j, j < 9 → -9223372036854775808 ≤ g j ∧ g j ≤ 9223372036854775807) (b1 : -9223372036854775808 ≤ z1 ∧ z1 ≤ 9223372036854775807) :
    Calls Tryd.prog 13 #[cfgV g, .int .i64 z1, .bool false] w (TruePost w) := by
  have hblk := heap_alloc_at w (cfgO g)
  have hs1 : Below w.heap.size w (w.alloc (cfgO g)) := (Below.refl _ _).alloc (Nat.le_refl _) _
  have hz : (w.alloc (cfgO g)).heap.size = w.heap.size + 1 := by simp
  have HG := Lib.hid hg
  have hkb := keepG_b g
  have HKB := Lib.hid hkb
  clear hg hkb
  simp only [cfgV]
  go_enter Tryd.func13, Tryd.ntmps13
  go_wp2_with fail
  rw [show Obj.cells #[.int .i64 (g 0), .int .i64 (g 1), .int .i64 (g 2), .int .i64 (g 3), .int .i64 (g 4), .int .i64 (g 5), .int .i64 (g 6), .int .i64 (g 7), .int .i64 (g 8)] 42 = cfgO g from rfl]
  generalize w.alloc (cfgO g) = W at hblk hs1 hz ⊢
  have HZ := Lib.hid hz
  have HB := Lib.hid hs1
  have HS := Lib.hid hs
  clear hz hs1 hs
  refine (kconfig g W HG.out).mono ?_
  rintro e W2 ⟨rfl, hB2⟩
  have HB2 := Lib.hid (HB.out.trans (hB2.mono HB.out.size))
  clear hB2 hblk
  generalize keepG g = h at *
  simp only [cfgV]
  go_wp2_with fail
  rw [show Obj.cells #[.int .i64 (h 0), .int .i64 (h 1), .int .i64 (h 2), .int .i64 (h 3), .int .i64 (h 4), .int .i64 (h 5), .int .i64 (h 6), .int .i64 (h 7), .int .i64 (h 8)] 42 = cfgO h from rfl]
  have hY := heap_alloc_at W2 (cfgO h)
  have hBY : Below w.heap.size w (W2.alloc (cfgO h)) := HB2.out.alloc HB2.out.size _
  have hzY : (W2.alloc (cfgO h)).heap.size = W2.heap.size + 1 := by simp
  have hle : w.heap.size ≤ W2.heap.size := HB2.out.size
  generalize W2.alloc (cfgO h) = Y at hY hBY hzY ⊢
  generalize W2.heap.size = b at *
  refine (Within_b _ _ _ _ (by omega) (by omega) (by omega) b1.1 b1.2).mono ?_
  rintro e w' ⟨rfl, rfl⟩
  have hk := wiF_b (n := z1) (lo := 0) (hi := 8) (by omega)
  generalize wiF z1 0 8 = k at *
  have hcs := cfg_at hY
  have hfz : ∀ j, Y.frozen? ⟨b, j, none⟩ = false := fun j => by simp [World.frozen?, hY, cfgO]
  have hlt : b < Y.heap.size := by omega
  have HHY := Lib.hid hY
  have HBY := Lib.hid hBY
  have HZY := Lib.hid hzY
  clear hY hBY hzY
  obtain rfl | rfl | rfl | rfl | rfl | rfl | rfl | rfl | rfl : k = 0 ∨ k = 1 ∨ k = 2 ∨ k = 3 ∨ k = 4 ∨ k = 5 ∨ k = 6 ∨ k = 7 ∨ k = 8 := by omega
  · go_wp2_with fail
    have hb : badAt (setK h 0 0) = some 0 := keep_bad HKB.out (k := 0) (by omega) (n := 0) (.inl rfl)
    change Calls Tryd.prog _ #[cfgV (setK h 0 0)] (refW Y b 0 0 (h 7)) _
    have hXb := refW_at (k := 0) (n := 0) (h7 := h 7) HHY.out (by omega)
    have hBX := refW_below (b := b) (k := 0) (n := 0) (h7 := h 7) HBY.out hle
    generalize refW Y b 0 0 (h 7) = X at hXb hBX ⊢
    refine (gcheck A (setK h 0 0) X (HS.out.below hBX)).mono ?_
    rintro e X2 ⟨rfl, hb2⟩
    rw [show cfgErr (setK h 0 0) = .wrap gcT 0 (.sent 0) by rw [cfgErr, hb]; rfl]
    have hB2 := hBX.trans (hb2.mono hBX.size)
    have hXb2 := (hb2.block b (Array.getElem?_eq_some_iff.1 hXb).1).trans hXb
    have HE := Lib.hid (show (ErrT.wrap gcT 0 (.sent 0)).val A = .iface 74 (.agg #[.string gcT, .int .i64 0, (ErrT.sent 0).val A]) from rfl)
    rw [HE.out]
    clear hb2 hXb hBX
    go_wp2_with fail
    rw [← HE.out]
    refine (is_c A (.wrap gcT 0 (.sent 0)) 1 gcT 0 _ (HS.out.below hB2) ⟨rfl, by simp [ErrT.wf]⟩ (by omega) (by omega)).mono ?_
    rintro e X3 ⟨rfl, hb3⟩
    rw [show isK (.wrap gcT 0 (.sent 0)) 1 gcT 0 = true from by simp [isK, ErrT.code], HE.out]
    have hB3 := hB2.trans (hb3.mono hB2.size)
    obtain ⟨x0, x1, x2, x3, x4, x5, x6, x7, x8⟩ := cfg_at ((hb3.block b (Array.getElem?_eq_some_iff.1 hXb2).1).trans hXb2)
    clear hb3 hXb2 hB2
    go_wp2_with fail
    change Calls Tryd.prog _ #[cfgV (setK h 0 0)] _ _
    refine (gtotal A (setK h 0 0) X3 (HS.out.below hB3)).mono ?_
    rintro e X4 ⟨rfl, hb4⟩
    rw [show totalF (setK h 0 0) = 0 by simp [totalF, hb]]
    have hB4 := hB3.trans (hb4.mono hB3.size)
    clear x0 x1 x2 x3 x4 x5 x6 x7 x8 hb4 hB3
    go_wp2_with fail
    refine (geomRuns A X4 (HS.out.below hB4)).mono ?_
    rintro e X5 ⟨rfl, hb5⟩
    go_wp2_with fail
    go_ret
    exact ⟨rfl, hB4.trans (hb5.mono hB4.size)⟩
  · go_wp2_with fail
    have hb : badAt (setK h 1 0) = some 1 := keep_bad HKB.out (k := 1) (by omega) (n := 0) (.inl rfl)
    change Calls Tryd.prog _ #[cfgV (setK h 1 0)] (refW Y b 1 0 (h 7)) _
    have hXb := refW_at (k := 1) (n := 0) (h7 := h 7) HHY.out (by omega)
    have hBX := refW_below (b := b) (k := 1) (n := 0) (h7 := h 7) HBY.out hle
    generalize refW Y b 1 0 (h 7) = X at hXb hBX ⊢
    refine (gcheck A (setK h 1 0) X (HS.out.below hBX)).mono ?_
    rintro e X2 ⟨rfl, hb2⟩
    rw [show cfgErr (setK h 1 0) = .wrap gcT 1 (.sent 0) by rw [cfgErr, hb]; rfl]
    have hB2 := hBX.trans (hb2.mono hBX.size)
    have hXb2 := (hb2.block b (Array.getElem?_eq_some_iff.1 hXb).1).trans hXb
    have HE := Lib.hid (show (ErrT.wrap gcT 1 (.sent 0)).val A = .iface 74 (.agg #[.string gcT, .int .i64 1, (ErrT.sent 0).val A]) from rfl)
    rw [HE.out]
    clear hb2 hXb hBX
    go_wp2_with fail
    rw [← HE.out]
    refine (is_c A (.wrap gcT 1 (.sent 0)) 1 gcT 1 _ (HS.out.below hB2) ⟨rfl, by simp [ErrT.wf]⟩ (by omega) (by omega)).mono ?_
    rintro e X3 ⟨rfl, hb3⟩
    rw [show isK (.wrap gcT 1 (.sent 0)) 1 gcT 1 = true from by simp [isK, ErrT.code], HE.out]
    have hB3 := hB2.trans (hb3.mono hB2.size)
    obtain ⟨x0, x1, x2, x3, x4, x5, x6, x7, x8⟩ := cfg_at ((hb3.block b (Array.getElem?_eq_some_iff.1 hXb2).1).trans hXb2)
    clear hb3 hXb2 hB2
    go_wp2_with fail
    change Calls Tryd.prog _ #[cfgV (setK h 1 0)] _ _
    refine (gtotal A (setK h 1 0) X3 (HS.out.below hB3)).mono ?_
    rintro e X4 ⟨rfl, hb4⟩
    rw [show totalF (setK h 1 0) = 0 by simp [totalF, hb]]
    have hB4 := hB3.trans (hb4.mono hB3.size)
    clear x0 x1 x2 x3 x4 x5 x6 x7 x8 hb4 hB3
    go_wp2_with fail
    refine (geomRuns A X4 (HS.out.below hB4)).mono ?_
    rintro e X5 ⟨rfl, hb5⟩
    go_wp2_with fail
    go_ret
    exact ⟨rfl, hB4.trans (hb5.mono hB4.size)⟩
  · go_wp2_with fail
    have hb : badAt (setK h 2 0) = some 2 := keep_bad HKB.out (k := 2) (by omega) (n := 0) (.inl rfl)
    change Calls Tryd.prog _ #[cfgV (setK h 2 0)] (refW Y b 2 0 (h 7)) _
    have hXb := refW_at (k := 2) (n := 0) (h7 := h 7) HHY.out (by omega)
    have hBX := refW_below (b := b) (k := 2) (n := 0) (h7 := h 7) HBY.out hle
    generalize refW Y b 2 0 (h 7) = X at hXb hBX ⊢
    refine (gcheck A (setK h 2 0) X (HS.out.below hBX)).mono ?_
    rintro e X2 ⟨rfl, hb2⟩
    rw [show cfgErr (setK h 2 0) = .wrap gcT 2 (.sent 0) by rw [cfgErr, hb]; rfl]
    have hB2 := hBX.trans (hb2.mono hBX.size)
    have hXb2 := (hb2.block b (Array.getElem?_eq_some_iff.1 hXb).1).trans hXb
    have HE := Lib.hid (show (ErrT.wrap gcT 2 (.sent 0)).val A = .iface 74 (.agg #[.string gcT, .int .i64 2, (ErrT.sent 0).val A]) from rfl)
    rw [HE.out]
    clear hb2 hXb hBX
    go_wp2_with fail
    rw [← HE.out]
    refine (is_c A (.wrap gcT 2 (.sent 0)) 1 gcT 2 _ (HS.out.below hB2) ⟨rfl, by simp [ErrT.wf]⟩ (by omega) (by omega)).mono ?_
    rintro e X3 ⟨rfl, hb3⟩
    rw [show isK (.wrap gcT 2 (.sent 0)) 1 gcT 2 = true from by simp [isK, ErrT.code], HE.out]
    have hB3 := hB2.trans (hb3.mono hB2.size)
    obtain ⟨x0, x1, x2, x3, x4, x5, x6, x7, x8⟩ := cfg_at ((hb3.block b (Array.getElem?_eq_some_iff.1 hXb2).1).trans hXb2)
    clear hb3 hXb2 hB2
    go_wp2_with fail
    change Calls Tryd.prog _ #[cfgV (setK h 2 0)] _ _
    refine (gtotal A (setK h 2 0) X3 (HS.out.below hB3)).mono ?_
    rintro e X4 ⟨rfl, hb4⟩
    rw [show totalF (setK h 2 0) = 0 by simp [totalF, hb]]
    have hB4 := hB3.trans (hb4.mono hB3.size)
    clear x0 x1 x2 x3 x4 x5 x6 x7 x8 hb4 hB3
    go_wp2_with fail
    refine (geomRuns A X4 (HS.out.below hB4)).mono ?_
    rintro e X5 ⟨rfl, hb5⟩
    go_wp2_with fail
    go_ret
    exact ⟨rfl, hB4.trans (hb5.mono hB4.size)⟩
  · go_wp2_with fail
    have hb : badAt (setK h 3 3) = some 3 := keep_bad HKB.out (k := 3) (by omega) (n := 3) (.inl rfl)
    change Calls Tryd.prog _ #[cfgV (setK h 3 3)] (refW Y b 3 3 (h 7)) _
    have hXb := refW_at (k := 3) (n := 3) (h7 := h 7) HHY.out (by omega)
    have hBX := refW_below (b := b) (k := 3) (n := 3) (h7 := h 7) HBY.out hle
    generalize refW Y b 3 3 (h 7) = X at hXb hBX ⊢
    refine (gcheck A (setK h 3 3) X (HS.out.below hBX)).mono ?_
    rintro e X2 ⟨rfl, hb2⟩
    rw [show cfgErr (setK h 3 3) = .wrap gcT 3 (.sent 0) by rw [cfgErr, hb]; rfl]
    have hB2 := hBX.trans (hb2.mono hBX.size)
    have hXb2 := (hb2.block b (Array.getElem?_eq_some_iff.1 hXb).1).trans hXb
    have HE := Lib.hid (show (ErrT.wrap gcT 3 (.sent 0)).val A = .iface 74 (.agg #[.string gcT, .int .i64 3, (ErrT.sent 0).val A]) from rfl)
    rw [HE.out]
    clear hb2 hXb hBX
    go_wp2_with fail
    rw [← HE.out]
    refine (is_c A (.wrap gcT 3 (.sent 0)) 1 gcT 3 _ (HS.out.below hB2) ⟨rfl, by simp [ErrT.wf]⟩ (by omega) (by omega)).mono ?_
    rintro e X3 ⟨rfl, hb3⟩
    rw [show isK (.wrap gcT 3 (.sent 0)) 1 gcT 3 = true from by simp [isK, ErrT.code], HE.out]
    have hB3 := hB2.trans (hb3.mono hB2.size)
    obtain ⟨x0, x1, x2, x3, x4, x5, x6, x7, x8⟩ := cfg_at ((hb3.block b (Array.getElem?_eq_some_iff.1 hXb2).1).trans hXb2)
    clear hb3 hXb2 hB2
    go_wp2_with fail
    change Calls Tryd.prog _ #[cfgV (setK h 3 3)] _ _
    refine (gtotal A (setK h 3 3) X3 (HS.out.below hB3)).mono ?_
    rintro e X4 ⟨rfl, hb4⟩
    rw [show totalF (setK h 3 3) = 0 by simp [totalF, hb]]
    have hB4 := hB3.trans (hb4.mono hB3.size)
    clear x0 x1 x2 x3 x4 x5 x6 x7 x8 hb4 hB3
    go_wp2_with fail
    refine (geomRuns A X4 (HS.out.below hB4)).mono ?_
    rintro e X5 ⟨rfl, hb5⟩
    go_wp2_with fail
    go_ret
    exact ⟨rfl, hB4.trans (hb5.mono hB4.size)⟩
  · go_wp2_with fail
    have hb : badAt (setK h 4 0) = some 4 := keep_bad HKB.out (k := 4) (by omega) (n := 0) (.inl rfl)
    change Calls Tryd.prog _ #[cfgV (setK h 4 0)] (refW Y b 4 0 (h 7)) _
    have hXb := refW_at (k := 4) (n := 0) (h7 := h 7) HHY.out (by omega)
    have hBX := refW_below (b := b) (k := 4) (n := 0) (h7 := h 7) HBY.out hle
    generalize refW Y b 4 0 (h 7) = X at hXb hBX ⊢
    refine (gcheck A (setK h 4 0) X (HS.out.below hBX)).mono ?_
    rintro e X2 ⟨rfl, hb2⟩
    rw [show cfgErr (setK h 4 0) = .wrap gcT 4 (.sent 0) by rw [cfgErr, hb]; rfl]
    have hB2 := hBX.trans (hb2.mono hBX.size)
    have hXb2 := (hb2.block b (Array.getElem?_eq_some_iff.1 hXb).1).trans hXb
    have HE := Lib.hid (show (ErrT.wrap gcT 4 (.sent 0)).val A = .iface 74 (.agg #[.string gcT, .int .i64 4, (ErrT.sent 0).val A]) from rfl)
    rw [HE.out]
    clear hb2 hXb hBX
    go_wp2_with fail
    rw [← HE.out]
    refine (is_c A (.wrap gcT 4 (.sent 0)) 1 gcT 4 _ (HS.out.below hB2) ⟨rfl, by simp [ErrT.wf]⟩ (by omega) (by omega)).mono ?_
    rintro e X3 ⟨rfl, hb3⟩
    rw [show isK (.wrap gcT 4 (.sent 0)) 1 gcT 4 = true from by simp [isK, ErrT.code], HE.out]
    have hB3 := hB2.trans (hb3.mono hB2.size)
    obtain ⟨x0, x1, x2, x3, x4, x5, x6, x7, x8⟩ := cfg_at ((hb3.block b (Array.getElem?_eq_some_iff.1 hXb2).1).trans hXb2)
    clear hb3 hXb2 hB2
    go_wp2_with fail
    change Calls Tryd.prog _ #[cfgV (setK h 4 0)] _ _
    refine (gtotal A (setK h 4 0) X3 (HS.out.below hB3)).mono ?_
    rintro e X4 ⟨rfl, hb4⟩
    rw [show totalF (setK h 4 0) = 0 by simp [totalF, hb]]
    have hB4 := hB3.trans (hb4.mono hB3.size)
    clear x0 x1 x2 x3 x4 x5 x6 x7 x8 hb4 hB3
    go_wp2_with fail
    refine (geomRuns A X4 (HS.out.below hB4)).mono ?_
    rintro e X5 ⟨rfl, hb5⟩
    go_wp2_with fail
    go_ret
    exact ⟨rfl, hB4.trans (hb5.mono hB4.size)⟩
  · go_wp2_with fail
    have hb : badAt (setK h 5 0) = some 5 := keep_bad HKB.out (k := 5) (by omega) (n := 0) (.inl rfl)
    change Calls Tryd.prog _ #[cfgV (setK h 5 0)] (refW Y b 5 0 (h 7)) _
    have hXb := refW_at (k := 5) (n := 0) (h7 := h 7) HHY.out (by omega)
    have hBX := refW_below (b := b) (k := 5) (n := 0) (h7 := h 7) HBY.out hle
    generalize refW Y b 5 0 (h 7) = X at hXb hBX ⊢
    refine (gcheck A (setK h 5 0) X (HS.out.below hBX)).mono ?_
    rintro e X2 ⟨rfl, hb2⟩
    rw [show cfgErr (setK h 5 0) = .wrap gcT 5 (.sent 0) by rw [cfgErr, hb]; rfl]
    have hB2 := hBX.trans (hb2.mono hBX.size)
    have hXb2 := (hb2.block b (Array.getElem?_eq_some_iff.1 hXb).1).trans hXb
    have HE := Lib.hid (show (ErrT.wrap gcT 5 (.sent 0)).val A = .iface 74 (.agg #[.string gcT, .int .i64 5, (ErrT.sent 0).val A]) from rfl)
    rw [HE.out]
    clear hb2 hXb hBX
    go_wp2_with fail
    rw [← HE.out]
    refine (is_c A (.wrap gcT 5 (.sent 0)) 1 gcT 5 _ (HS.out.below hB2) ⟨rfl, by simp [ErrT.wf]⟩ (by omega) (by omega)).mono ?_
    rintro e X3 ⟨rfl, hb3⟩
    rw [show isK (.wrap gcT 5 (.sent 0)) 1 gcT 5 = true from by simp [isK, ErrT.code], HE.out]
    have hB3 := hB2.trans (hb3.mono hB2.size)
    obtain ⟨x0, x1, x2, x3, x4, x5, x6, x7, x8⟩ := cfg_at ((hb3.block b (Array.getElem?_eq_some_iff.1 hXb2).1).trans hXb2)
    clear hb3 hXb2 hB2
    go_wp2_with fail
    change Calls Tryd.prog _ #[cfgV (setK h 5 0)] _ _
    refine (gtotal A (setK h 5 0) X3 (HS.out.below hB3)).mono ?_
    rintro e X4 ⟨rfl, hb4⟩
    rw [show totalF (setK h 5 0) = 0 by simp [totalF, hb]]
    have hB4 := hB3.trans (hb4.mono hB3.size)
    clear x0 x1 x2 x3 x4 x5 x6 x7 x8 hb4 hB3
    go_wp2_with fail
    refine (geomRuns A X4 (HS.out.below hB4)).mono ?_
    rintro e X5 ⟨rfl, hb5⟩
    go_wp2_with fail
    go_ret
    exact ⟨rfl, hB4.trans (hb5.mono hB4.size)⟩
  · go_wp2_with fail
    have hb : badAt (setK h 6 0) = some 6 := keep_bad HKB.out (k := 6) (by omega) (n := 0) (.inl rfl)
    change Calls Tryd.prog _ #[cfgV (setK h 6 0)] (refW Y b 6 0 (h 7)) _
    have hXb := refW_at (k := 6) (n := 0) (h7 := h 7) HHY.out (by omega)
    have hBX := refW_below (b := b) (k := 6) (n := 0) (h7 := h 7) HBY.out hle
    generalize refW Y b 6 0 (h 7) = X at hXb hBX ⊢
    refine (gcheck A (setK h 6 0) X (HS.out.below hBX)).mono ?_
    rintro e X2 ⟨rfl, hb2⟩
    rw [show cfgErr (setK h 6 0) = .wrap gcT 6 (.sent 0) by rw [cfgErr, hb]; rfl]
    have hB2 := hBX.trans (hb2.mono hBX.size)
    have hXb2 := (hb2.block b (Array.getElem?_eq_some_iff.1 hXb).1).trans hXb
    have HE := Lib.hid (show (ErrT.wrap gcT 6 (.sent 0)).val A = .iface 74 (.agg #[.string gcT, .int .i64 6, (ErrT.sent 0).val A]) from rfl)
    rw [HE.out]
    clear hb2 hXb hBX
    go_wp2_with fail
    rw [← HE.out]
    refine (is_c A (.wrap gcT 6 (.sent 0)) 1 gcT 6 _ (HS.out.below hB2) ⟨rfl, by simp [ErrT.wf]⟩ (by omega) (by omega)).mono ?_
    rintro e X3 ⟨rfl, hb3⟩
    rw [show isK (.wrap gcT 6 (.sent 0)) 1 gcT 6 = true from by simp [isK, ErrT.code], HE.out]
    have hB3 := hB2.trans (hb3.mono hB2.size)
    obtain ⟨x0, x1, x2, x3, x4, x5, x6, x7, x8⟩ := cfg_at ((hb3.block b (Array.getElem?_eq_some_iff.1 hXb2).1).trans hXb2)
    clear hb3 hXb2 hB2
    go_wp2_with fail
    change Calls Tryd.prog _ #[cfgV (setK h 6 0)] _ _
    refine (gtotal A (setK h 6 0) X3 (HS.out.below hB3)).mono ?_
    rintro e X4 ⟨rfl, hb4⟩
    rw [show totalF (setK h 6 0) = 0 by simp [totalF, hb]]
    have hB4 := hB3.trans (hb4.mono hB3.size)
    clear x0 x1 x2 x3 x4 x5 x6 x7 x8 hb4 hB3
    go_wp2_with fail
    refine (geomRuns A X4 (HS.out.below hB4)).mono ?_
    rintro e X5 ⟨rfl, hb5⟩
    go_wp2_with fail
    go_ret
    exact ⟨rfl, hB4.trans (hb5.mono hB4.size)⟩
  · go_wp2_with fail
    have hb : badAt (setK h 7 0) = some 7 := keep_bad HKB.out (k := 7) (by omega) (n := 0) (.inl rfl)
    change Calls Tryd.prog _ #[cfgV (setK h 7 0)] (refW Y b 7 0 (h 7)) _
    have hXb := refW_at (k := 7) (n := 0) (h7 := h 7) HHY.out (by omega)
    have hBX := refW_below (b := b) (k := 7) (n := 0) (h7 := h 7) HBY.out hle
    generalize refW Y b 7 0 (h 7) = X at hXb hBX ⊢
    refine (gcheck A (setK h 7 0) X (HS.out.below hBX)).mono ?_
    rintro e X2 ⟨rfl, hb2⟩
    rw [show cfgErr (setK h 7 0) = .wrap gcT 7 (.sent 0) by rw [cfgErr, hb]; rfl]
    have hB2 := hBX.trans (hb2.mono hBX.size)
    have hXb2 := (hb2.block b (Array.getElem?_eq_some_iff.1 hXb).1).trans hXb
    have HE := Lib.hid (show (ErrT.wrap gcT 7 (.sent 0)).val A = .iface 74 (.agg #[.string gcT, .int .i64 7, (ErrT.sent 0).val A]) from rfl)
    rw [HE.out]
    clear hb2 hXb hBX
    go_wp2_with fail
    rw [← HE.out]
    refine (is_c A (.wrap gcT 7 (.sent 0)) 1 gcT 7 _ (HS.out.below hB2) ⟨rfl, by simp [ErrT.wf]⟩ (by omega) (by omega)).mono ?_
    rintro e X3 ⟨rfl, hb3⟩
    rw [show isK (.wrap gcT 7 (.sent 0)) 1 gcT 7 = true from by simp [isK, ErrT.code], HE.out]
    have hB3 := hB2.trans (hb3.mono hB2.size)
    obtain ⟨x0, x1, x2, x3, x4, x5, x6, x7, x8⟩ := cfg_at ((hb3.block b (Array.getElem?_eq_some_iff.1 hXb2).1).trans hXb2)
    clear hb3 hXb2 hB2
    go_wp2_with fail
    change Calls Tryd.prog _ #[cfgV (setK h 7 0)] _ _
    refine (gtotal A (setK h 7 0) X3 (HS.out.below hB3)).mono ?_
    rintro e X4 ⟨rfl, hb4⟩
    rw [show totalF (setK h 7 0) = 0 by simp [totalF, hb]]
    have hB4 := hB3.trans (hb4.mono hB3.size)
    clear x0 x1 x2 x3 x4 x5 x6 x7 x8 hb4 hB3
    go_wp2_with fail
    refine (geomRuns A X4 (HS.out.below hB4)).mono ?_
    rintro e X5 ⟨rfl, hb5⟩
    go_wp2_with fail
    go_ret
    exact ⟨rfl, hB4.trans (hb5.mono hB4.size)⟩
  · go_wp2_with fail
    have hb : badAt (setK h 8 (-2)) = some 8 := keep_bad HKB.out (k := 8) (by omega) (n := (-2)) (.inl rfl)
    change Calls Tryd.prog _ #[cfgV (setK h 8 (-2))] (refW Y b 8 (-2) (h 7)) _
    have hXb := refW_at (k := 8) (n := (-2)) (h7 := h 7) HHY.out (by omega)
    have hBX := refW_below (b := b) (k := 8) (n := (-2)) (h7 := h 7) HBY.out hle
    generalize refW Y b 8 (-2) (h 7) = X at hXb hBX ⊢
    refine (gcheck A (setK h 8 (-2)) X (HS.out.below hBX)).mono ?_
    rintro e X2 ⟨rfl, hb2⟩
    rw [show cfgErr (setK h 8 (-2)) = .wrap gcT 8 (.sent 0) by rw [cfgErr, hb]; rfl]
    have hB2 := hBX.trans (hb2.mono hBX.size)
    have hXb2 := (hb2.block b (Array.getElem?_eq_some_iff.1 hXb).1).trans hXb
    have HE := Lib.hid (show (ErrT.wrap gcT 8 (.sent 0)).val A = .iface 74 (.agg #[.string gcT, .int .i64 8, (ErrT.sent 0).val A]) from rfl)
    rw [HE.out]
    clear hb2 hXb hBX
    go_wp2_with fail
    rw [← HE.out]
    refine (is_c A (.wrap gcT 8 (.sent 0)) 1 gcT 8 _ (HS.out.below hB2) ⟨rfl, by simp [ErrT.wf]⟩ (by omega) (by omega)).mono ?_
    rintro e X3 ⟨rfl, hb3⟩
    rw [show isK (.wrap gcT 8 (.sent 0)) 1 gcT 8 = true from by simp [isK, ErrT.code], HE.out]
    have hB3 := hB2.trans (hb3.mono hB2.size)
    obtain ⟨x0, x1, x2, x3, x4, x5, x6, x7, x8⟩ := cfg_at ((hb3.block b (Array.getElem?_eq_some_iff.1 hXb2).1).trans hXb2)
    clear hb3 hXb2 hB2
    go_wp2_with fail
    change Calls Tryd.prog _ #[cfgV (setK h 8 (-2))] _ _
    refine (gtotal A (setK h 8 (-2)) X3 (HS.out.below hB3)).mono ?_
    rintro e X4 ⟨rfl, hb4⟩
    rw [show totalF (setK h 8 (-2)) = 0 by simp [totalF, hb]]
    have hB4 := hB3.trans (hb4.mono hB3.size)
    clear x0 x1 x2 x3 x4 x5 x6 x7 x8 hb4 hB3
    go_wp2_with fail
    refine (geomRuns A X4 (HS.out.below hB4)).mono ?_
    rintro e X5 ⟨rfl, hb5⟩
    go_wp2_with fail
    go_ret
    exact ⟨rfl, hB4.trans (hb5.mono hB4.size)⟩

end Go.Proofs.YtaecihljgbjmcaaDoor
