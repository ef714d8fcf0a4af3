/- adapt's New, Pick, Counts. -/
import Derived.Test.YtaecihljgbjmcaaDoorA3
import Derived.Test.YtaecihljgbjmcaaDoorLex
import Derived.BigQuiet
import Derived.Deep.RegionWith
namespace Go.Proofs.YtaecihljgbjmcaaDoor
open Go.RowKit

def newC (high low : Int) : Nat → Int := fun k => if k = 0 then high else if k = 1 then low else 0

def NewPost (high low : Int) (w : World) (e : Ending) (w' : World) : Prop :=
  e = .returned (.tuple #[.pointer (some ⟨w.heap.size, 0, none⟩), .nilIface]) ∧ AdaptAt w' w.heap.size (newC high low) ∧ w.heap.size < w'.heap.size ∧ Below w.heap.size w w'

set_option maxHeartbeats 400000 in
theorem new_ok (high low : Int) (w : World) (h1 : 1 ≤ high) (h2 : high ≤ 15) (h3 : -1 ≤ low) (h4 : low < high) :
    Calls Tryd.prog 15 #[.int .i64 high, .int .i64 low] w (NewPost high low w) := by
  go_enter Tryd.func15, Tryd.ntmps15
  go_wp2
  go_ret2
  refine ⟨rfl, ⟨fun k hk => ?_, fun k _ => World.frozen?_alloc_new _ _ _ _⟩, by simp, (Below.refl _ _).alloc (Nat.le_refl _) _⟩
  rw [World.cell?_alloc_new]
  exact match k, hk with | 0, _ => rfl | 1, _ => rfl | 2, _ => rfl | 3, _ => rfl | 4, _ => rfl | 5, _ => rfl | 6, _ => rfl | 7, _ => rfl | 8, _ => rfl | 9, _ => rfl | 10, _ => rfl | 11, _ => rfl | 12, _ => rfl | 13, _ => rfl | 14, _ => rfl | 15, _ => rfl | 16, _ => rfl | 17, _ => rfl | 18, _ => rfl | 19, _ => rfl | 20, _ => rfl | 21, _ => rfl | 22, _ => rfl | 23, _ => rfl | 24, _ => rfl | 25, _ => rfl | 26, _ => rfl | 27, _ => rfl | 28, _ => rfl | 29, _ => rfl | 30, _ => rfl | 31, _ => rfl | 32, _ => rfl | 33, _ => rfl | 34, _ => rfl | 35, _ => rfl | 36, _ => rfl | 37, _ => rfl | 38, _ => rfl | 39, _ => rfl | 40, _ => rfl | 41, _ => rfl | _ + 42, h => absurd h (by omega)

set_option maxHeartbeats 400000 in
theorem counts_ok (b : Nat) (C : Nat → Int) (i : Nat) (w : World) (h : AdaptAt w b C) (hi8 : i < 8) :
    Calls Tryd.prog 17 #[.pointer (some ⟨b, 0, none⟩), .int .i64 i] w fun e w' => e = .returned (.tuple #[.int .i64 (C (2 + i * 5)), .int .i64 (C (2 + i * 5 + 1)), .int .i64 (C (2 + i * 5 + 2))]) ∧ w' = w.drew := by
  have c0 := h.cell (2 + i * 5) (by omega)
  have c1 := h.cell (2 + i * 5 + 1) (by omega)
  have c2 := h.cell (2 + i * 5 + 2) (by omega)
  go_enter Tryd.func17, Tryd.ntmps17
  go_wp2
  refine wp_region_lexA ⟨[], []⟩ (fun w' => w' = w.drew) (by kernel_rfl) (by kernel_rfl) rfl ?_
  intro S hto hof hne
  have hx : ∀ x : Wd S, x.w = w.drew := fun x => hto x
  clear hto hof
  refine lexW_light 24 (by kernel_rfl) ?_
  simp only [List.take_succ_cons, List.take_zero, List.drop_succ_cons, List.drop_zero]
  repeat (first | go_big_quiet_skip | (go_big_quiet_want; go_big_quiet_op; go_big_quiet_on))
  refine wpQuiet_nil ?_
  refine lexW_done ?_
  go_wp2
  go_ret3
  exact ⟨rfl, rfl⟩

theorem counts_no (b : Nat) (i : Int) (w : World) (hi : i < 0 ∨ 8 ≤ i) :
    Calls Tryd.prog 17 #[.pointer (some ⟨b, 0, none⟩), .int .i64 i] w fun e w' => e = .returned (.tuple #[.int .i64 0, .int .i64 0, .int .i64 0]) ∧ w' = w := by
  rcases hi with hi | hi
  · go_enter Tryd.func17, Tryd.ntmps17
    go_wp2
    go_ret3
    exact ⟨rfl, rfl⟩
  · have : 0 ≤ i := by omega
    go_enter Tryd.func17, Tryd.ntmps17
    go_wp2
    go_ret3
    exact ⟨rfl, rfl⟩

def pickF (C : Nat → Int) (i : Nat) (mode : Int) : Int :=
  if C 0 ≤ C (2 + i * 5) then 3 else if C 0 ≤ C (2 + i * 5 + 1) then 2 else if C 0 ≤ C (2 + i * 5 + 2) then 1
  else if C (2 + i * 5) ≤ C 1 ∧ C (2 + i * 5 + 1) ≤ C 1 ∧ C (2 + i * 5 + 2) ≤ C 1 then 0 else mode

def PickPost (r : Int) (w : World) (e : Ending) (w' : World) : Prop := e = .returned (.int .i64 r) ∧ Below w.heap.size w w'

set_option maxHeartbeats 1000000 in
theorem pick_ok (b : Nat) (C : Nat → Int) (line mode : Int) (i : Nat) (w : World) (h : AdaptAt w b C) (hi : areaF line = (i : Int)) (hi8 : i < 8) (h0 : 0 ≤ mode) (h3 : mode ≤ 3) :
    Calls Tryd.prog 18 #[.pointer (some ⟨b, 0, none⟩), .int .i64 line, .int .i64 mode] w (PickPost (pickF C i mode) w) := by
  have HI := Lib.hid hi
  clear hi
  have g0 := h.cell 0 (by omega)
  have g1 := h.cell 1 (by omega)
  have c0 := h.cell (2 + i * 5) (by omega)
  have c1 := h.cell (2 + i * 5 + 1) (by omega)
  have c2 := h.cell (2 + i * 5 + 2) (by omega)
  have c3 := h.cell (2 + i * 5 + 3) (by omega)
  have c4 := h.cell (2 + i * 5 + 4) (by omega)
  have hbw := World.block_lt_of_cell? _ _ g0
  go_enter Tryd.func18, Tryd.ntmps18
  go_wp2_with (go_at_call 25; refine (area_any _ _).mono ?_; rintro e w' ⟨rfl, rfl⟩; rw [HI.out])
  have hB : Below w.heap.size w (w.alloc (.cells #[.int .i64 (C (2 + i * 5)), .int .i64 (C (2 + i * 5 + 1)), .int .i64 (C (2 + i * 5 + 2)), .int .i64 (C (2 + i * 5 + 3)), .int .i64 (C (2 + i * 5 + 4))] 64)) := (Below.refl _ _).alloc (Nat.le_refl _) _
  have n0 := World.cell?_alloc_new w #[.int .i64 (C (2 + i * 5)), .int .i64 (C (2 + i * 5 + 1)), .int .i64 (C (2 + i * 5 + 2)), .int .i64 (C (2 + i * 5 + 3)), .int .i64 (C (2 + i * 5 + 4))] 64 0
  have n1 := World.cell?_alloc_new w #[.int .i64 (C (2 + i * 5)), .int .i64 (C (2 + i * 5 + 1)), .int .i64 (C (2 + i * 5 + 2)), .int .i64 (C (2 + i * 5 + 3)), .int .i64 (C (2 + i * 5 + 4))] 64 1
  have n2 := World.cell?_alloc_new w #[.int .i64 (C (2 + i * 5)), .int .i64 (C (2 + i * 5 + 1)), .int .i64 (C (2 + i * 5 + 2)), .int .i64 (C (2 + i * 5 + 3)), .int .i64 (C (2 + i * 5 + 4))] 64 2
  have hb0 := hB.cell (p := ⟨b, 0, none⟩) hbw
  have hb1 := hB.cell (p := ⟨b, 1, none⟩) hbw
  rw [g0] at hb0
  rw [g1] at hb1
  generalize w.alloc (.cells #[.int .i64 (C (2 + i * 5)), .int .i64 (C (2 + i * 5 + 1)), .int .i64 (C (2 + i * 5 + 2)), .int .i64 (C (2 + i * 5 + 3)), .int .i64 (C (2 + i * 5 + 4))] 64) = w1 at *
  clear c0 c1 c2 c3 c4 g0 g1
  simp at n0 n1 n2
  by_cases m1 : C 0 ≤ C (2 + i * 5)
  · refine wp_region_lexA ⟨[], []⟩ (fun w' => w' = _) (by kernel_rfl) (by kernel_rfl) rfl ?_
    intro S hto hof hne
    have hx : ∀ x : Wd S, x.w = _ := fun x => hto x
    clear hto hof
    refine lexW_light 8 (by kernel_rfl) ?_
    simp only [List.take_succ_cons, List.take_zero, List.drop_succ_cons, List.drop_zero]
    repeat (first | go_big_quiet_skip | (go_big_quiet_want; go_big_quiet_op; go_big_quiet_on))
    refine wpQuiet_nil ?_
    refine lexW_done ?_
    clear hx hne S
    go_wp2
    go_ret
    exact ⟨ret_int (by rw [pickF, if_pos (by omega)]), hB.drew⟩
  refine wp_region_lexA ⟨[], []⟩ (fun w' => w' = _) (by kernel_rfl) (by kernel_rfl) rfl ?_
  intro S hto hof hne
  have hx : ∀ x : Wd S, x.w = _ := fun x => hto x
  clear hto hof
  refine lexW_light 8 (by kernel_rfl) ?_
  simp only [List.take_succ_cons, List.take_zero, List.drop_succ_cons, List.drop_zero]
  repeat (first | go_big_quiet_skip | (go_big_quiet_want; go_big_quiet_op; go_big_quiet_on))
  refine wpQuiet_nil ?_
  refine lexW_done ?_
  clear hx hne S
  go_wp2
  by_cases m2 : C 0 ≤ C (2 + i * 5 + 1)
  · refine wp_region_lexA ⟨[], []⟩ (fun w' => w' = _) (by kernel_rfl) (by kernel_rfl) rfl ?_
    intro S hto hof hne
    have hx : ∀ x : Wd S, x.w = _ := fun x => hto x
    clear hto hof
    refine lexW_light 8 (by kernel_rfl) ?_
    simp only [List.take_succ_cons, List.take_zero, List.drop_succ_cons, List.drop_zero]
    repeat (first | go_big_quiet_skip | (go_big_quiet_want; go_big_quiet_op; go_big_quiet_on))
    refine wpQuiet_nil ?_
    refine lexW_done ?_
    clear hx hne S
    go_wp2
    go_ret
    exact ⟨ret_int (by rw [pickF, if_neg (by omega), if_pos (by omega)]), hB.drew.drew⟩
  refine wp_region_lexA ⟨[], []⟩ (fun w' => w' = _) (by kernel_rfl) (by kernel_rfl) rfl ?_
  intro S hto hof hne
  have hx : ∀ x : Wd S, x.w = _ := fun x => hto x
  clear hto hof
  refine lexW_light 8 (by kernel_rfl) ?_
  simp only [List.take_succ_cons, List.take_zero, List.drop_succ_cons, List.drop_zero]
  repeat (first | go_big_quiet_skip | (go_big_quiet_want; go_big_quiet_op; go_big_quiet_on))
  refine wpQuiet_nil ?_
  refine lexW_done ?_
  clear hx hne S
  go_wp2
  by_cases m3 : C 0 ≤ C (2 + i * 5 + 2)
  · refine wp_region_lexA ⟨[], []⟩ (fun w' => w' = _) (by kernel_rfl) (by kernel_rfl) rfl ?_
    intro S hto hof hne
    have hx : ∀ x : Wd S, x.w = _ := fun x => hto x
    clear hto hof
    refine lexW_light 8 (by kernel_rfl) ?_
    simp only [List.take_succ_cons, List.take_zero, List.drop_succ_cons, List.drop_zero]
    repeat (first | go_big_quiet_skip | (go_big_quiet_want; go_big_quiet_op; go_big_quiet_on))
    refine wpQuiet_nil ?_
    refine lexW_done ?_
    clear hx hne S
    go_wp2
    go_ret
    exact ⟨ret_int (by rw [pickF, if_neg (by omega), if_neg (by omega), if_pos (by omega)]), hB.drew.drew.drew⟩
  refine wp_region_lexA ⟨[], []⟩ (fun w' => w' = _) (by kernel_rfl) (by kernel_rfl) rfl ?_
  intro S hto hof hne
  have hx : ∀ x : Wd S, x.w = _ := fun x => hto x
  clear hto hof
  refine lexW_light 8 (by kernel_rfl) ?_
  simp only [List.take_succ_cons, List.take_zero, List.drop_succ_cons, List.drop_zero]
  repeat (first | go_big_quiet_skip | (go_big_quiet_want; go_big_quiet_op; go_big_quiet_on))
  refine wpQuiet_nil ?_
  refine lexW_done ?_
  clear hx hne S
  go_wp2
  refine wp_region_lexA ⟨[], []⟩ (fun w' => w' = _) (by kernel_rfl) (by kernel_rfl) rfl ?_
  intro S hto hof hne
  have hx : ∀ x : Wd S, x.w = _ := fun x => hto x
  clear hto hof
  refine lexW_light 13 (by kernel_rfl) ?_
  simp only [List.take_succ_cons, List.take_zero, List.drop_succ_cons, List.drop_zero]
  repeat (first | go_big_quiet_skip | (go_big_quiet_want; go_big_quiet_op; go_big_quiet_on))
  refine wpQuiet_nil ?_
  refine lexW_done ?_
  clear hx hne S
  go_wp2
  all_goals
    go_ret
    exact ⟨ret_int (by first | (rw [pickF, if_neg (by omega), if_neg (by omega), if_neg (by omega), if_pos (by omega)]) | (rw [pickF, if_neg (by omega), if_neg (by omega), if_neg (by omega), if_neg (by omega)])), hB.drew.drew.drew.drew⟩

set_option maxHeartbeats 400000 in
theorem pick_no (b : Nat) (line mode : Int) (w : World) (h : areaF line < 0 ∨ mode < 0 ∨ 3 < mode) :
    Calls Tryd.prog 18 #[.pointer (some ⟨b, 0, none⟩), .int .i64 line, .int .i64 mode] w (PickPost (-1) w) := by
  have h' : areaF line < 0 ∨ (0 ≤ areaF line ∧ mode < 0) ∨ (0 ≤ areaF line ∧ 0 ≤ mode ∧ 3 < mode) := by omega
  clear h
  rcases h' with h1 | ⟨h1, h2⟩ | ⟨h1, h2, h3⟩
  all_goals
    go_enter Tryd.func18, Tryd.ntmps18
    go_wp2_with (go_at_call 25; refine (area_any _ _).mono ?_; rintro e w' ⟨rfl, rfl⟩)
    go_ret
    exact ⟨rfl, Below.refl _ _⟩

end Go.Proofs.YtaecihljgbjmcaaDoor
