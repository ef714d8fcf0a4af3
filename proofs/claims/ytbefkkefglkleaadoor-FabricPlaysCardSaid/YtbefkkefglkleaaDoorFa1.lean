/- The fabric: a pool's place. -/
import Derived.Test.YtbefkkefglkleaaDoorFa0
import Derived.Test.YtbefkkefglkleaaDoorErr6
import Derived.Test.YtbefkkefglkleaaDoorLex
import Derived.Test.YtbefkkefglkleaaDoorBk
import Derived.Test.YtbefkkefglkleaaDoorWin
import Derived.Deep.Cut
import Derived.Deep.CutRange
import Derived.Deep.CutBlock
namespace Go.Proofs.YtbefkkefglkleaaDoor
open Go.RowKit Go.Extern.Stop Go.Stop Go.Extern

def placeP (p c : Int) : Plc := if p = 0 ∨ p = 2 then (p, 0) else if p = 1 ∨ p = 3 then (p, c) else (0, 0)
def placeOk (cores p c : Int) : Bool := decide (p = 0 ∨ p = 2) || decide (p = 1 ∨ p = 3) && decide (0 ≤ c ∧ c < cores)
theorem set_two {w : World} {h : Nat} {T : TypeId} {x y a c : Value} (hx : w.heap[h]? = some (.cells #[x, y] T (0, 0))) : ((w.setCell ⟨h, 0, none⟩ a).setCell ⟨h, 1, none⟩ c).drew.heap[h]? = some (.cells #[a, c] T (0, 0)) := by
  have e0 : (w.setCell ⟨h, 0, none⟩ a).heap[h]? = some (.cells #[a, y] T (0, 0)) := (heap_setCell_at (k := 0) hx a).trans rfl
  exact (heap_setCell_at (k := 1) e0 c).trans rfl

set_option maxRecDepth 100000 in
set_option maxHeartbeats 4000000 in
theorem at_c (b : Nat) (cores p c : Int) (w : World) (hb : w.cell? ⟨b, 0, none⟩ = some (.int .i64 cores)) :
    Calls Tryd.prog 31 #[.pointer (some ⟨b, 0, none⟩), .int .i64 p, .int .i64 c] w fun ev w' => ev = .returned (.tuple #[keyV (placeP p c), .bool (placeOk cores p c)]) ∧ Below w.heap.size w w' := by
  have HLT := Lib.hid (World.block_lt_of_cell? _ _ hb)
  by_cases h02 : p = 0 ∨ p = 2
  · rw [show placeP p c = (p, 0) from if_pos h02, show placeOk cores p c = true by simp [placeOk, h02]]
    have n0 := World.cell?_alloc_new w #[.int .i64 p, .int .i64 0] 70 0
    have n1 := World.cell?_alloc_new w #[.int .i64 p, .int .i64 0] 70 1
    simp only [List.getElem?_toArray, List.getElem?_cons_zero, List.getElem?_cons_succ] at n0 n1
    have HB := Lib.hid (show Below w.heap.size w (w.alloc (.cells #[.int .i64 p, .int .i64 0] 70)) from (Below.refl _ _).alloc (Nat.le_refl _) _)
    rcases h02 with rfl | rfl
    · skip
      go_enter Tryd.func31, Tryd.ntmps31
      go_wp2_with fail
      refine bodyPost_ret_by (v := .tuple #[keyV (0, 0), .bool true]) (by simp [results, Tryd.results31, go_sem, keyV, n0, n1]) rfl ?_
      exact ⟨rfl, HB.out⟩
    · skip
      go_enter Tryd.func31, Tryd.ntmps31
      go_wp2_with fail
      refine bodyPost_ret_by (v := .tuple #[keyV (2, 0), .bool true]) (by simp [results, Tryd.results31, go_sem, keyV, n0, n1]) rfl ?_
      exact ⟨rfl, HB.out⟩
  · by_cases h13 : p = 1 ∨ p = 3
    · rw [show placeP p c = (p, c) by unfold placeP; rw [if_neg h02, if_pos h13]]
      have hok : placeOk cores p c = decide (0 ≤ c ∧ c < cores) := by simp [placeOk, h02, h13]
      obtain ⟨ok, ho⟩ : ∃ ok, placeOk cores p c = ok := ⟨_, rfl⟩
      rw [ho]
      rw [ho] at hok
      have HO := Lib.hid hok
      clear ho hok h02
      by_cases hc0 : 0 ≤ c
      · by_cases hc1 : c < cores
        · obtain rfl : ok = true := by rw [HO.out]; exact decide_eq_true ⟨hc0, hc1⟩
          have g0 : decide (0 ≤ c) = true := by simpa using hc0
          have g1 : decide (c < cores) = true := by simpa using hc1
          rcases h13 with rfl | rfl
          · skip
            go_enter Tryd.func31, Tryd.ntmps31
            go_upto_region 7 with fail
            have HZ := Lib.hid (heap_alloc_new w (.cells #[.int .i64 0, .int .i64 0] 70))
            have hb1 : Below w.heap.size w (w.alloc (.cells #[.int .i64 0, .int .i64 0] 70)) := (Below.refl _ _).alloc (Nat.le_refl _) _
            have HB1 := Lib.hid hb1
            have hbc := (hb1.cell (p := ⟨b, 0, none⟩) HLT.out).trans hb
            have hlt := Nat.lt_of_lt_of_le HLT.out hb1.size
            obtain ⟨h6, hh6⟩ : ∃ h, h = w.heap.size := ⟨_, rfl⟩
            have HNE := Lib.hid (show w.heap.size ≤ h6 ∧ b ≠ h6 from by have hbl : b < w.heap.size := HLT.out; omega)
            rw [← hh6] at HZ ⊢
            generalize w.alloc (.cells #[.int .i64 0, .int .i64 0] 70) = w1 at *
            clear hh6 hb1 hb
            have hne1 : b ≠ h6 := HNE.out.2
            have hxz := HZ.out
            have z0 := cell_of hxz 0
            have z1 := cell_of hxz 1
            simp only [List.getElem?_toArray, List.getElem?_cons_zero, List.getElem?_cons_succ] at z0 z1
            have f0 := frozen_of hxz 0
            have f1 := frozen_of hxz 1
            refine wp_region_lexA ⟨[], []⟩ (fun x => Mods (fun q => q = h6) w1 x) (by kernel_rfl) (by kernel_rfl) (Mods.refl _ _).drew ?_
            intro S hto hof hne
            have x0 : ∀ z : Wd S, z.w.cell? ⟨b, 0, none⟩ = some (.int .i64 cores) := fun z => ((hto z).cell (p := ⟨b, 0, none⟩) hlt hne1).trans hbc
            have Hof := Lib.hid hof
            clear hto hof hbc hlt
            refine lexW_light 13 (by kernel_rfl) ?_
            simp only [List.take_succ_cons, List.take_zero, List.drop_succ_cons, List.drop_zero]
            repeat (first | go_big_quiet_skip | (go_big_quiet_want; go_big_quiet_op; go_big_quiet_on))
            refine wpQuiet_nil ?_
            clear x0
            refine lexW_heavy (by kernel_rfl) ?_
            go_wp2_with fail
            have hM := (((Mods.refl (fun q => q = h6) w1).setCell (p := ⟨h6, 0, none⟩) rfl (.int .i64 1)).setCell (p := ⟨h6, 1, none⟩) rfl (.int .i64 c)).drew
            have hz := set_two (a := .int .i64 1) (c := .int .i64 c) hxz
            have HB2 := Lib.hid (show Below w.heap.size w ((w1.setCell ⟨h6, 0, none⟩ (.int .i64 1)).setCell ⟨h6, 1, none⟩ (.int .i64 c)).drew from ((HB1.out.setCell (p := ⟨h6, 0, none⟩) HNE.out.1 _).setCell (p := ⟨h6, 1, none⟩) HNE.out.1 _).drew)
            refine lexQ_more (Hof.out _ hM) ?_
            clear hM hxz z0 z1 f0 f1 hne1
            generalize ((w1.setCell ⟨h6, 0, none⟩ (.int .i64 1)).setCell ⟨h6, 1, none⟩ (.int .i64 c)).drew = w2 at *
            refine lexW_light 1 (by kernel_rfl) ?_
            simp only [List.take_succ_cons, List.take_zero, List.drop_succ_cons, List.drop_zero]
            repeat (first | go_big_quiet_skip | (go_big_quiet_want; go_big_quiet_op; go_big_quiet_on))
            refine wpQuiet_nil ?_
            refine lexW_done ?_
            clear Hof hne
            have n0 := cell_of hz 0
            have n1 := cell_of hz 1
            simp only [List.getElem?_toArray, List.getElem?_cons_zero, List.getElem?_cons_succ] at n0 n1
            go_wp2_with fail
            refine bodyPost_ret_by (v := .tuple #[keyV (1, c), .bool true]) (by simp [results, Tryd.results31, go_sem, keyV, n0, n1]) rfl ?_
            exact ⟨rfl, HB2.out⟩
          · skip
            go_enter Tryd.func31, Tryd.ntmps31
            go_upto_region 7 with fail
            have HZ := Lib.hid (heap_alloc_new w (.cells #[.int .i64 0, .int .i64 0] 70))
            have hb1 : Below w.heap.size w (w.alloc (.cells #[.int .i64 0, .int .i64 0] 70)) := (Below.refl _ _).alloc (Nat.le_refl _) _
            have HB1 := Lib.hid hb1
            have hbc := (hb1.cell (p := ⟨b, 0, none⟩) HLT.out).trans hb
            have hlt := Nat.lt_of_lt_of_le HLT.out hb1.size
            obtain ⟨h6, hh6⟩ : ∃ h, h = w.heap.size := ⟨_, rfl⟩
            have HNE := Lib.hid (show w.heap.size ≤ h6 ∧ b ≠ h6 from by have hbl : b < w.heap.size := HLT.out; omega)
            rw [← hh6] at HZ ⊢
            generalize w.alloc (.cells #[.int .i64 0, .int .i64 0] 70) = w1 at *
            clear hh6 hb1 hb
            have hne1 : b ≠ h6 := HNE.out.2
            have hxz := HZ.out
            have z0 := cell_of hxz 0
            have z1 := cell_of hxz 1
            simp only [List.getElem?_toArray, List.getElem?_cons_zero, List.getElem?_cons_succ] at z0 z1
            have f0 := frozen_of hxz 0
            have f1 := frozen_of hxz 1
            refine wp_region_lexA ⟨[], []⟩ (fun x => Mods (fun q => q = h6) w1 x) (by kernel_rfl) (by kernel_rfl) (Mods.refl _ _).drew ?_
            intro S hto hof hne
            have x0 : ∀ z : Wd S, z.w.cell? ⟨b, 0, none⟩ = some (.int .i64 cores) := fun z => ((hto z).cell (p := ⟨b, 0, none⟩) hlt hne1).trans hbc
            have Hof := Lib.hid hof
            clear hto hof hbc hlt
            refine lexW_light 13 (by kernel_rfl) ?_
            simp only [List.take_succ_cons, List.take_zero, List.drop_succ_cons, List.drop_zero]
            repeat (first | go_big_quiet_skip | (go_big_quiet_want; go_big_quiet_op; go_big_quiet_on))
            refine wpQuiet_nil ?_
            clear x0
            refine lexW_heavy (by kernel_rfl) ?_
            go_wp2_with fail
            have hM := (((Mods.refl (fun q => q = h6) w1).setCell (p := ⟨h6, 0, none⟩) rfl (.int .i64 3)).setCell (p := ⟨h6, 1, none⟩) rfl (.int .i64 c)).drew
            have hz := set_two (a := .int .i64 3) (c := .int .i64 c) hxz
            have HB2 := Lib.hid (show Below w.heap.size w ((w1.setCell ⟨h6, 0, none⟩ (.int .i64 3)).setCell ⟨h6, 1, none⟩ (.int .i64 c)).drew from ((HB1.out.setCell (p := ⟨h6, 0, none⟩) HNE.out.1 _).setCell (p := ⟨h6, 1, none⟩) HNE.out.1 _).drew)
            refine lexQ_more (Hof.out _ hM) ?_
            clear hM hxz z0 z1 f0 f1 hne1
            generalize ((w1.setCell ⟨h6, 0, none⟩ (.int .i64 3)).setCell ⟨h6, 1, none⟩ (.int .i64 c)).drew = w2 at *
            refine lexW_light 1 (by kernel_rfl) ?_
            simp only [List.take_succ_cons, List.take_zero, List.drop_succ_cons, List.drop_zero]
            repeat (first | go_big_quiet_skip | (go_big_quiet_want; go_big_quiet_op; go_big_quiet_on))
            refine wpQuiet_nil ?_
            refine lexW_done ?_
            clear Hof hne
            have n0 := cell_of hz 0
            have n1 := cell_of hz 1
            simp only [List.getElem?_toArray, List.getElem?_cons_zero, List.getElem?_cons_succ] at n0 n1
            go_wp2_with fail
            refine bodyPost_ret_by (v := .tuple #[keyV (3, c), .bool true]) (by simp [results, Tryd.results31, go_sem, keyV, n0, n1]) rfl ?_
            exact ⟨rfl, HB2.out⟩
        · obtain rfl : ok = false := by rw [HO.out]; exact decide_eq_false fun h => hc1 h.2
          have g0 : decide (0 ≤ c) = true := by simpa using hc0
          have g1 : decide (c < cores) = false := by simpa using hc1
          rcases h13 with rfl | rfl
          · skip
            go_enter Tryd.func31, Tryd.ntmps31
            go_upto_region 7 with fail
            have HZ := Lib.hid (heap_alloc_new w (.cells #[.int .i64 0, .int .i64 0] 70))
            have hb1 : Below w.heap.size w (w.alloc (.cells #[.int .i64 0, .int .i64 0] 70)) := (Below.refl _ _).alloc (Nat.le_refl _) _
            have HB1 := Lib.hid hb1
            have hbc := (hb1.cell (p := ⟨b, 0, none⟩) HLT.out).trans hb
            have hlt := Nat.lt_of_lt_of_le HLT.out hb1.size
            obtain ⟨h6, hh6⟩ : ∃ h, h = w.heap.size := ⟨_, rfl⟩
            have HNE := Lib.hid (show w.heap.size ≤ h6 ∧ b ≠ h6 from by have hbl : b < w.heap.size := HLT.out; omega)
            rw [← hh6] at HZ ⊢
            generalize w.alloc (.cells #[.int .i64 0, .int .i64 0] 70) = w1 at *
            clear hh6 hb1 hb
            have hne1 : b ≠ h6 := HNE.out.2
            have hxz := HZ.out
            have z0 := cell_of hxz 0
            have z1 := cell_of hxz 1
            simp only [List.getElem?_toArray, List.getElem?_cons_zero, List.getElem?_cons_succ] at z0 z1
            have f0 := frozen_of hxz 0
            have f1 := frozen_of hxz 1
            refine wp_region_lexA ⟨[], []⟩ (fun x => Mods (fun q => q = h6) w1 x) (by kernel_rfl) (by kernel_rfl) (Mods.refl _ _).drew ?_
            intro S hto hof hne
            have x0 : ∀ z : Wd S, z.w.cell? ⟨b, 0, none⟩ = some (.int .i64 cores) := fun z => ((hto z).cell (p := ⟨b, 0, none⟩) hlt hne1).trans hbc
            have Hof := Lib.hid hof
            clear hto hof hbc hlt
            refine lexW_light 13 (by kernel_rfl) ?_
            simp only [List.take_succ_cons, List.take_zero, List.drop_succ_cons, List.drop_zero]
            repeat (first | go_big_quiet_skip | (go_big_quiet_want; go_big_quiet_op; go_big_quiet_on))
            refine wpQuiet_nil ?_
            clear x0
            refine lexW_heavy (by kernel_rfl) ?_
            go_wp2_with fail
            have hM := (((Mods.refl (fun q => q = h6) w1).setCell (p := ⟨h6, 0, none⟩) rfl (.int .i64 1)).setCell (p := ⟨h6, 1, none⟩) rfl (.int .i64 c)).drew
            have hz := set_two (a := .int .i64 1) (c := .int .i64 c) hxz
            have HB2 := Lib.hid (show Below w.heap.size w ((w1.setCell ⟨h6, 0, none⟩ (.int .i64 1)).setCell ⟨h6, 1, none⟩ (.int .i64 c)).drew from ((HB1.out.setCell (p := ⟨h6, 0, none⟩) HNE.out.1 _).setCell (p := ⟨h6, 1, none⟩) HNE.out.1 _).drew)
            refine lexQ_more (Hof.out _ hM) ?_
            clear hM hxz z0 z1 f0 f1 hne1
            generalize ((w1.setCell ⟨h6, 0, none⟩ (.int .i64 1)).setCell ⟨h6, 1, none⟩ (.int .i64 c)).drew = w2 at *
            refine lexW_light 1 (by kernel_rfl) ?_
            simp only [List.take_succ_cons, List.take_zero, List.drop_succ_cons, List.drop_zero]
            repeat (first | go_big_quiet_skip | (go_big_quiet_want; go_big_quiet_op; go_big_quiet_on))
            refine wpQuiet_nil ?_
            refine lexW_done ?_
            clear Hof hne
            have n0 := cell_of hz 0
            have n1 := cell_of hz 1
            simp only [List.getElem?_toArray, List.getElem?_cons_zero, List.getElem?_cons_succ] at n0 n1
            go_wp2_with fail
            refine bodyPost_ret_by (v := .tuple #[keyV (1, c), .bool false]) (by simp [results, Tryd.results31, go_sem, keyV, n0, n1]) rfl ?_
            exact ⟨rfl, HB2.out⟩
          · skip
            go_enter Tryd.func31, Tryd.ntmps31
            go_upto_region 7 with fail
            have HZ := Lib.hid (heap_alloc_new w (.cells #[.int .i64 0, .int .i64 0] 70))
            have hb1 : Below w.heap.size w (w.alloc (.cells #[.int .i64 0, .int .i64 0] 70)) := (Below.refl _ _).alloc (Nat.le_refl _) _
            have HB1 := Lib.hid hb1
            have hbc := (hb1.cell (p := ⟨b, 0, none⟩) HLT.out).trans hb
            have hlt := Nat.lt_of_lt_of_le HLT.out hb1.size
            obtain ⟨h6, hh6⟩ : ∃ h, h = w.heap.size := ⟨_, rfl⟩
            have HNE := Lib.hid (show w.heap.size ≤ h6 ∧ b ≠ h6 from by have hbl : b < w.heap.size := HLT.out; omega)
            rw [← hh6] at HZ ⊢
            generalize w.alloc (.cells #[.int .i64 0, .int .i64 0] 70) = w1 at *
            clear hh6 hb1 hb
            have hne1 : b ≠ h6 := HNE.out.2
            have hxz := HZ.out
            have z0 := cell_of hxz 0
            have z1 := cell_of hxz 1
            simp only [List.getElem?_toArray, List.getElem?_cons_zero, List.getElem?_cons_succ] at z0 z1
            have f0 := frozen_of hxz 0
            have f1 := frozen_of hxz 1
            refine wp_region_lexA ⟨[], []⟩ (fun x => Mods (fun q => q = h6) w1 x) (by kernel_rfl) (by kernel_rfl) (Mods.refl _ _).drew ?_
            intro S hto hof hne
            have x0 : ∀ z : Wd S, z.w.cell? ⟨b, 0, none⟩ = some (.int .i64 cores) := fun z => ((hto z).cell (p := ⟨b, 0, none⟩) hlt hne1).trans hbc
            have Hof := Lib.hid hof
            clear hto hof hbc hlt
            refine lexW_light 13 (by kernel_rfl) ?_
            simp only [List.take_succ_cons, List.take_zero, List.drop_succ_cons, List.drop_zero]
            repeat (first | go_big_quiet_skip | (go_big_quiet_want; go_big_quiet_op; go_big_quiet_on))
            refine wpQuiet_nil ?_
            clear x0
            refine lexW_heavy (by kernel_rfl) ?_
            go_wp2_with fail
            have hM := (((Mods.refl (fun q => q = h6) w1).setCell (p := ⟨h6, 0, none⟩) rfl (.int .i64 3)).setCell (p := ⟨h6, 1, none⟩) rfl (.int .i64 c)).drew
            have hz := set_two (a := .int .i64 3) (c := .int .i64 c) hxz
            have HB2 := Lib.hid (show Below w.heap.size w ((w1.setCell ⟨h6, 0, none⟩ (.int .i64 3)).setCell ⟨h6, 1, none⟩ (.int .i64 c)).drew from ((HB1.out.setCell (p := ⟨h6, 0, none⟩) HNE.out.1 _).setCell (p := ⟨h6, 1, none⟩) HNE.out.1 _).drew)
            refine lexQ_more (Hof.out _ hM) ?_
            clear hM hxz z0 z1 f0 f1 hne1
            generalize ((w1.setCell ⟨h6, 0, none⟩ (.int .i64 3)).setCell ⟨h6, 1, none⟩ (.int .i64 c)).drew = w2 at *
            refine lexW_light 1 (by kernel_rfl) ?_
            simp only [List.take_succ_cons, List.take_zero, List.drop_succ_cons, List.drop_zero]
            repeat (first | go_big_quiet_skip | (go_big_quiet_want; go_big_quiet_op; go_big_quiet_on))
            refine wpQuiet_nil ?_
            refine lexW_done ?_
            clear Hof hne
            have n0 := cell_of hz 0
            have n1 := cell_of hz 1
            simp only [List.getElem?_toArray, List.getElem?_cons_zero, List.getElem?_cons_succ] at n0 n1
            go_wp2_with fail
            refine bodyPost_ret_by (v := .tuple #[keyV (3, c), .bool false]) (by simp [results, Tryd.results31, go_sem, keyV, n0, n1]) rfl ?_
            exact ⟨rfl, HB2.out⟩
      · obtain rfl : ok = false := by rw [HO.out]; exact decide_eq_false fun h => hc0 h.1
        have g0 : decide (0 ≤ c) = false := by simpa using hc0
        rcases h13 with rfl | rfl
        · skip
          go_enter Tryd.func31, Tryd.ntmps31
          go_upto_region 7 with fail
          have HZ := Lib.hid (heap_alloc_new w (.cells #[.int .i64 0, .int .i64 0] 70))
          have hb1 : Below w.heap.size w (w.alloc (.cells #[.int .i64 0, .int .i64 0] 70)) := (Below.refl _ _).alloc (Nat.le_refl _) _
          have HB1 := Lib.hid hb1
          have hbc := (hb1.cell (p := ⟨b, 0, none⟩) HLT.out).trans hb
          have hlt := Nat.lt_of_lt_of_le HLT.out hb1.size
          obtain ⟨h6, hh6⟩ : ∃ h, h = w.heap.size := ⟨_, rfl⟩
          have HNE := Lib.hid (show w.heap.size ≤ h6 ∧ b ≠ h6 from by have hbl : b < w.heap.size := HLT.out; omega)
          rw [← hh6] at HZ ⊢
          generalize w.alloc (.cells #[.int .i64 0, .int .i64 0] 70) = w1 at *
          clear hh6 hb1 hb
          have hne1 : b ≠ h6 := HNE.out.2
          have hxz := HZ.out
          have z0 := cell_of hxz 0
          have z1 := cell_of hxz 1
          simp only [List.getElem?_toArray, List.getElem?_cons_zero, List.getElem?_cons_succ] at z0 z1
          have f0 := frozen_of hxz 0
          have f1 := frozen_of hxz 1
          refine wp_region_lexA ⟨[], []⟩ (fun x => Mods (fun q => q = h6) w1 x) (by kernel_rfl) (by kernel_rfl) (Mods.refl _ _).drew ?_
          intro S hto hof hne
          have x0 : ∀ z : Wd S, z.w.cell? ⟨b, 0, none⟩ = some (.int .i64 cores) := fun z => ((hto z).cell (p := ⟨b, 0, none⟩) hlt hne1).trans hbc
          have Hof := Lib.hid hof
          clear hto hof hbc hlt
          refine lexW_light 13 (by kernel_rfl) ?_
          simp only [List.take_succ_cons, List.take_zero, List.drop_succ_cons, List.drop_zero]
          repeat (first | go_big_quiet_skip | (go_big_quiet_want; go_big_quiet_op; go_big_quiet_on))
          refine wpQuiet_nil ?_
          clear x0
          refine lexW_heavy (by kernel_rfl) ?_
          go_wp2_with fail
          have hM := (((Mods.refl (fun q => q = h6) w1).setCell (p := ⟨h6, 0, none⟩) rfl (.int .i64 1)).setCell (p := ⟨h6, 1, none⟩) rfl (.int .i64 c)).drew
          have hz := set_two (a := .int .i64 1) (c := .int .i64 c) hxz
          have HB2 := Lib.hid (show Below w.heap.size w ((w1.setCell ⟨h6, 0, none⟩ (.int .i64 1)).setCell ⟨h6, 1, none⟩ (.int .i64 c)).drew from ((HB1.out.setCell (p := ⟨h6, 0, none⟩) HNE.out.1 _).setCell (p := ⟨h6, 1, none⟩) HNE.out.1 _).drew)
          refine lexQ_more (Hof.out _ hM) ?_
          clear hM hxz z0 z1 f0 f1 hne1
          generalize ((w1.setCell ⟨h6, 0, none⟩ (.int .i64 1)).setCell ⟨h6, 1, none⟩ (.int .i64 c)).drew = w2 at *
          refine lexW_light 1 (by kernel_rfl) ?_
          simp only [List.take_succ_cons, List.take_zero, List.drop_succ_cons, List.drop_zero]
          repeat (first | go_big_quiet_skip | (go_big_quiet_want; go_big_quiet_op; go_big_quiet_on))
          refine wpQuiet_nil ?_
          refine lexW_done ?_
          clear Hof hne
          have n0 := cell_of hz 0
          have n1 := cell_of hz 1
          simp only [List.getElem?_toArray, List.getElem?_cons_zero, List.getElem?_cons_succ] at n0 n1
          go_wp2_with fail
          refine bodyPost_ret_by (v := .tuple #[keyV (1, c), .bool false]) (by simp [results, Tryd.results31, go_sem, keyV, n0, n1]) rfl ?_
          exact ⟨rfl, HB2.out⟩
        · skip
          go_enter Tryd.func31, Tryd.ntmps31
          go_upto_region 7 with fail
          have HZ := Lib.hid (heap_alloc_new w (.cells #[.int .i64 0, .int .i64 0] 70))
          have hb1 : Below w.heap.size w (w.alloc (.cells #[.int .i64 0, .int .i64 0] 70)) := (Below.refl _ _).alloc (Nat.le_refl _) _
          have HB1 := Lib.hid hb1
          have hbc := (hb1.cell (p := ⟨b, 0, none⟩) HLT.out).trans hb
          have hlt := Nat.lt_of_lt_of_le HLT.out hb1.size
          obtain ⟨h6, hh6⟩ : ∃ h, h = w.heap.size := ⟨_, rfl⟩
          have HNE := Lib.hid (show w.heap.size ≤ h6 ∧ b ≠ h6 from by have hbl : b < w.heap.size := HLT.out; omega)
          rw [← hh6] at HZ ⊢
          generalize w.alloc (.cells #[.int .i64 0, .int .i64 0] 70) = w1 at *
          clear hh6 hb1 hb
          have hne1 : b ≠ h6 := HNE.out.2
          have hxz := HZ.out
          have z0 := cell_of hxz 0
          have z1 := cell_of hxz 1
          simp only [List.getElem?_toArray, List.getElem?_cons_zero, List.getElem?_cons_succ] at z0 z1
          have f0 := frozen_of hxz 0
          have f1 := frozen_of hxz 1
          refine wp_region_lexA ⟨[], []⟩ (fun x => Mods (fun q => q = h6) w1 x) (by kernel_rfl) (by kernel_rfl) (Mods.refl _ _).drew ?_
          intro S hto hof hne
          have x0 : ∀ z : Wd S, z.w.cell? ⟨b, 0, none⟩ = some (.int .i64 cores) := fun z => ((hto z).cell (p := ⟨b, 0, none⟩) hlt hne1).trans hbc
          have Hof := Lib.hid hof
          clear hto hof hbc hlt
          refine lexW_light 13 (by kernel_rfl) ?_
          simp only [List.take_succ_cons, List.take_zero, List.drop_succ_cons, List.drop_zero]
          repeat (first | go_big_quiet_skip | (go_big_quiet_want; go_big_quiet_op; go_big_quiet_on))
          refine wpQuiet_nil ?_
          clear x0
          refine lexW_heavy (by kernel_rfl) ?_
          go_wp2_with fail
          have hM := (((Mods.refl (fun q => q = h6) w1).setCell (p := ⟨h6, 0, none⟩) rfl (.int .i64 3)).setCell (p := ⟨h6, 1, none⟩) rfl (.int .i64 c)).drew
          have hz := set_two (a := .int .i64 3) (c := .int .i64 c) hxz
          have HB2 := Lib.hid (show Below w.heap.size w ((w1.setCell ⟨h6, 0, none⟩ (.int .i64 3)).setCell ⟨h6, 1, none⟩ (.int .i64 c)).drew from ((HB1.out.setCell (p := ⟨h6, 0, none⟩) HNE.out.1 _).setCell (p := ⟨h6, 1, none⟩) HNE.out.1 _).drew)
          refine lexQ_more (Hof.out _ hM) ?_
          clear hM hxz z0 z1 f0 f1 hne1
          generalize ((w1.setCell ⟨h6, 0, none⟩ (.int .i64 3)).setCell ⟨h6, 1, none⟩ (.int .i64 c)).drew = w2 at *
          refine lexW_light 1 (by kernel_rfl) ?_
          simp only [List.take_succ_cons, List.take_zero, List.drop_succ_cons, List.drop_zero]
          repeat (first | go_big_quiet_skip | (go_big_quiet_want; go_big_quiet_op; go_big_quiet_on))
          refine wpQuiet_nil ?_
          refine lexW_done ?_
          clear Hof hne
          have n0 := cell_of hz 0
          have n1 := cell_of hz 1
          simp only [List.getElem?_toArray, List.getElem?_cons_zero, List.getElem?_cons_succ] at n0 n1
          go_wp2_with fail
          refine bodyPost_ret_by (v := .tuple #[keyV (3, c), .bool false]) (by simp [results, Tryd.results31, go_sem, keyV, n0, n1]) rfl ?_
          exact ⟨rfl, HB2.out⟩
    · rw [show placeP p c = (0, 0) by unfold placeP; rw [if_neg h02, if_neg h13], show placeOk cores p c = false by simp [placeOk, h02, h13]]
      have n0 := World.cell?_alloc_new w #[.int .i64 0, .int .i64 0] 70 0
      have n1 := World.cell?_alloc_new w #[.int .i64 0, .int .i64 0] 70 1
      simp only [List.getElem?_toArray, List.getElem?_cons_zero, List.getElem?_cons_succ] at n0 n1
      have HB := Lib.hid (show Below w.heap.size w (w.alloc (.cells #[.int .i64 0, .int .i64 0] 70)) from (Below.refl _ _).alloc (Nat.le_refl _) _)
      have g0 : (p == 0) = false := by simp; omega
      have g1 : (p == 1) = false := by simp; omega
      have g2 : (p == 2) = false := by simp; omega
      have g3 : (p == 3) = false := by simp; omega
      clear h02 h13
      go_enter Tryd.func31, Tryd.ntmps31
      go_wp2_with fail
      refine bodyPost_ret_by (v := .tuple #[keyV (0, 0), .bool false]) (by simp [results, Tryd.results31, go_sem, keyV, n0, n1]) rfl ?_
      exact ⟨rfl, HB.out⟩

end Go.Proofs.YtbefkkefglkleaaDoor
