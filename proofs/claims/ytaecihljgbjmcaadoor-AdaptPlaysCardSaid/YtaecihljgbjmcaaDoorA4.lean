/- (*adapt.Adapt).Note: what each kind of request does to the counters. -/
import Derived.Test.YtaecihljgbjmcaaDoorA3
import Derived.Test.YtaecihljgbjmcaaDoorLex
import Derived.BigQuiet
import Derived.Deep.RegionWith
namespace Go.Proofs.YtaecihljgbjmcaaDoor
open Go.RowKit

/-- what a write counts, behind Send and Share -/
def moveC (C : Nat → Int) (i : Nat) (core : Int) : Nat → Int :=
  updC (updC C (2 + i * 5) (cntF (decide (C (2 + i * 5 + 3) = core + 1) && decide (0 < C (2 + i * 5 + 4)) && !decide (C (2 + i * 5 + 4) = core + 1)) (C (2 + i * 5)))) (2 + i * 5 + 4) (core + 1)

def updateC (C : Nat → Int) (i : Nat) (core : Int) : Nat → Int := moveC (updC C (2 + i * 5 + 1) (incF (C (2 + i * 5 + 1)))) i core
def writeC (C : Nat → Int) (i : Nat) (core holders : Int) : Nat → Int :=
  if 3 ≤ holders then moveC (updC C (2 + i * 5 + 1) (incF (C (2 + i * 5 + 1)))) i core
  else moveC (updC (updC C (2 + i * 5 + 1) (decF (C (2 + i * 5 + 1)))) (2 + i * 5 + 2) (decF (C (2 + i * 5 + 2)))) i core

theorem test3 (x core : Int) (y : Int) (t1 t2 t3 : Bool) (h1 : (x == core + 1) = t1) (h2 : decide (0 < y) = t2) (h3 : (y != core + 1) = t3) :
    (decide (x = core + 1) && decide (0 < y) && !decide (y = core + 1)) = (t1 && t2 && t3) := by
  subst h1; subst h2; subst h3
  rfl

set_option maxHeartbeats 1000000 in
theorem note_update (b : Nat) (C : Nat → Int) (line core holders : Int) (i : Nat) (w : World) (h : AdaptAt w b C) (hi : areaF line = (i : Int)) (hi8 : i < 8) (h3 : 0 ≤ core) (h4 : core < 64) (h5 : 0 ≤ holders)
    (hb : ∀ j, j < 3 → 0 ≤ C (2 + i * 5 + j) ∧ C (2 + i * 5 + j) ≤ 15) :
    Calls Tryd.prog 16 #[.pointer (some ⟨b, 0, none⟩), .int .i64 line, .int .i64 3, .int .i64 core, .int .i64 holders] w (AdaptPost b (updateC C i core) w true) := by
  have HI := Lib.hid hi
  clear hi
  have b0 := hb 0 (by omega)
  have b1 := hb 1 (by omega)
  have c1 := h.cell (2 + i * 5 + 1) (by omega)
  have f1 := h.froz (2 + i * 5 + 1) (by omega)
  go_enter Tryd.func16, Tryd.ntmps16
  go_wp2_with (first | (go_at_call 25; refine (area_any _ _).mono ?_; rintro e w' ⟨rfl, rfl⟩; rw [HI.out]) | (go_at_call_of 35 (Value.pointer (some { block := b, off := 2 + i * 5 + 1 })); refine (count_any _ _ _ (C (2 + i * 5 + 1)) _ ?_ ?_ b1.1 b1.2).mono ?_; (go_simp); (go_simp); rintro e w' ⟨rfl, rfl⟩))
  have hA := h
  have hA := hA.set (k := 2 + i * 5 + 1) (by omega) (cntF true (C (2 + i * 5 + 1)))
  have hG : w.grownBy (World.setCell w ⟨b, 2 + i * 5 + 1, none⟩ (.int .i64 (cntF true (C (2 + i * 5 + 1))))) (some b) := grown_set (World.grownBy.refl w (some b))
  clear c1 f1
  generalize (World.setCell w ⟨b, 2 + i * 5 + 1, none⟩ (.int .i64 (cntF true (C (2 + i * 5 + 1))))) = w1 at *
  have c0 := hA.cell (2 + i * 5) (by omega)
  have c3 := hA.cell (2 + i * 5 + 3) (by omega)
  have c4 := hA.cell (2 + i * 5 + 4) (by omega)
  have f0 := hA.froz (2 + i * 5) (by omega)
  have f4 := hA.froz (2 + i * 5 + 4) (by omega)
  have u0 : (updC C (2 + i * 5 + 1) (cntF true (C (2 + i * 5 + 1)))) (2 + i * 5) = C (2 + i * 5) := by simp [updC]
  have u3 : (updC C (2 + i * 5 + 1) (cntF true (C (2 + i * 5 + 1)))) (2 + i * 5 + 3) = C (2 + i * 5 + 3) := by simp [updC]
  have u4 : (updC C (2 + i * 5 + 1) (cntF true (C (2 + i * 5 + 1)))) (2 + i * 5 + 4) = C (2 + i * 5 + 4) := by simp [updC]
  rw [u0] at c0
  rw [u3] at c3
  rw [u4] at c4
  have hF : ∀ t : Bool, (decide (C (2 + i * 5 + 3) = core + 1) && decide (0 < C (2 + i * 5 + 4)) && !decide (C (2 + i * 5 + 4) = core + 1)) = t → ∀ w2 : World, AdaptAt w2 b (updC C (2 + i * 5 + 1) (cntF true (C (2 + i * 5 + 1)))) → w.grownBy w2 (some b) →
      AdaptPost b (updateC C i core) w true (.returned (.bool true)) ((w2.setCell ⟨b, 2 + i * 5, none⟩ (.int .i64 (cntF t (C (2 + i * 5))))).setCell ⟨b, 2 + i * 5 + 4, none⟩ (.int .i64 (core + 1))) := by
    intro t ht w2 hA hG
    refine ⟨rfl, ?_, grown_set (grown_set hG)⟩
    have h2 := (hA.set (k := 2 + i * 5) (by omega) (cntF t (C (2 + i * 5)))).set (k := 2 + i * 5 + 4) (by omega) (core + 1)
    rw [updateC]
    simp only [moveC, incF, u0, u3, u4, ht]
    exact h2
  have HF := Lib.hid hF
  clear hF u0 u3 u4
  have hw1 : IntKind.i64.wrap (core + 1) = core + 1 := IntWalk.i64_in _ (by omega)
  cases k1 : (C (2 + i * 5 + 3) == core + 1) <;> cases k2 : decide (0 < C (2 + i * 5 + 4)) <;> cases k3 : (C (2 + i * 5 + 4) != core + 1)
  all_goals
    have t1 := Lib.hid (test3 _ _ _ _ _ _ k1 k2 k3)
    refine wp_region_lexA ⟨[], []⟩ (fun w' => w'.cell? ⟨b, 2 + i * 5 + 3, none⟩ = some (.int .i64 (C (2 + i * 5 + 3))) ∧ w'.cell? ⟨b, 2 + i * 5 + 4, none⟩ = some (.int .i64 (C (2 + i * 5 + 4)))) (by kernel_rfl) (by kernel_rfl) ⟨c3, c4⟩ ?_
    intro S hto hof hne
    have hx3 : ∀ x : Wd S, x.w.cell? ⟨b, 2 + i * 5 + 3, none⟩ = some (.int .i64 (C (2 + i * 5 + 3))) := fun x => (hto x).1
    have hx4 : ∀ x : Wd S, x.w.cell? ⟨b, 2 + i * 5 + 4, none⟩ = some (.int .i64 (C (2 + i * 5 + 4))) := fun x => (hto x).2
    have Hof := Lib.hid hof
    clear hto hof
    refine lexW_light 26 (by kernel_rfl) ?_
    simp only [List.take_succ_cons, List.take_zero, List.drop_succ_cons, List.drop_zero]
    repeat (first | go_big_quiet_skip | (go_big_quiet_want; go_big_quiet_op; go_big_quiet_on))
    refine wpQuiet_nil ?_
    refine lexW_heavy (by kernel_rfl) ?_
    go_wp2_with (first | (go_at_call 35; refine (count_any _ _ _ (C (2 + i * 5)) _ ?_ ?_ b0.1 b0.2).mono ?_; (go_simp); (go_simp); rintro e w' ⟨rfl, rfl⟩))
    refine lexQ_done (Hof.out _ ⟨?_, ?_⟩) ?_
    · exact (World.cell?_setCell_other w1 _ _ _ (by intro h; injection h with _ h2; omega)).trans c3
    · exact (World.cell?_setCell_other w1 _ _ _ (by intro h; injection h with _ h2; omega)).trans c4
    go_wp2
    go_ret
    exact HF.out _ t1.out _ (hA.drewN 1) (grown_drewN hG 1)

set_option maxHeartbeats 1000000 in
theorem note_write3 (b : Nat) (C : Nat → Int) (line core holders : Int) (i : Nat) (w : World) (h : AdaptAt w b C) (hi : areaF line = (i : Int)) (hi8 : i < 8) (h3 : 0 ≤ core) (h4 : core < 64) (_h5 : 0 ≤ holders) (h6 : 3 ≤ holders)
    (hb : ∀ j, j < 3 → 0 ≤ C (2 + i * 5 + j) ∧ C (2 + i * 5 + j) ≤ 15) :
    Calls Tryd.prog 16 #[.pointer (some ⟨b, 0, none⟩), .int .i64 line, .int .i64 2, .int .i64 core, .int .i64 holders] w (AdaptPost b (writeC C i core holders) w true) := by
  have HI := Lib.hid hi
  clear hi
  have b0 := hb 0 (by omega)
  have b1 := hb 1 (by omega)
  have c1 := h.cell (2 + i * 5 + 1) (by omega)
  have f1 := h.froz (2 + i * 5 + 1) (by omega)
  go_enter Tryd.func16, Tryd.ntmps16
  go_wp2_with (first | (go_at_call 25; refine (area_any _ _).mono ?_; rintro e w' ⟨rfl, rfl⟩; rw [HI.out]) | (go_at_call_of 35 (Value.pointer (some { block := b, off := 2 + i * 5 + 1 })); refine (count_any _ _ _ (C (2 + i * 5 + 1)) _ ?_ ?_ b1.1 b1.2).mono ?_; (go_simp); (go_simp); rintro e w' ⟨rfl, rfl⟩))
  have hA := h
  have hA := hA.set (k := 2 + i * 5 + 1) (by omega) (cntF true (C (2 + i * 5 + 1)))
  have hG : w.grownBy (World.setCell w ⟨b, 2 + i * 5 + 1, none⟩ (.int .i64 (cntF true (C (2 + i * 5 + 1))))) (some b) := grown_set (World.grownBy.refl w (some b))
  clear c1 f1
  generalize (World.setCell w ⟨b, 2 + i * 5 + 1, none⟩ (.int .i64 (cntF true (C (2 + i * 5 + 1))))) = w1 at *
  have c0 := hA.cell (2 + i * 5) (by omega)
  have c3 := hA.cell (2 + i * 5 + 3) (by omega)
  have c4 := hA.cell (2 + i * 5 + 4) (by omega)
  have f0 := hA.froz (2 + i * 5) (by omega)
  have f4 := hA.froz (2 + i * 5 + 4) (by omega)
  have u0 : (updC C (2 + i * 5 + 1) (cntF true (C (2 + i * 5 + 1)))) (2 + i * 5) = C (2 + i * 5) := by simp [updC]
  have u3 : (updC C (2 + i * 5 + 1) (cntF true (C (2 + i * 5 + 1)))) (2 + i * 5 + 3) = C (2 + i * 5 + 3) := by simp [updC]
  have u4 : (updC C (2 + i * 5 + 1) (cntF true (C (2 + i * 5 + 1)))) (2 + i * 5 + 4) = C (2 + i * 5 + 4) := by simp [updC]
  rw [u0] at c0
  rw [u3] at c3
  rw [u4] at c4
  have hF : ∀ t : Bool, (decide (C (2 + i * 5 + 3) = core + 1) && decide (0 < C (2 + i * 5 + 4)) && !decide (C (2 + i * 5 + 4) = core + 1)) = t → ∀ w2 : World, AdaptAt w2 b (updC C (2 + i * 5 + 1) (cntF true (C (2 + i * 5 + 1)))) → w.grownBy w2 (some b) →
      AdaptPost b (writeC C i core holders) w true (.returned (.bool true)) ((w2.setCell ⟨b, 2 + i * 5, none⟩ (.int .i64 (cntF t (C (2 + i * 5))))).setCell ⟨b, 2 + i * 5 + 4, none⟩ (.int .i64 (core + 1))) := by
    intro t ht w2 hA hG
    refine ⟨rfl, ?_, grown_set (grown_set hG)⟩
    have h2 := (hA.set (k := 2 + i * 5) (by omega) (cntF t (C (2 + i * 5)))).set (k := 2 + i * 5 + 4) (by omega) (core + 1)
    rw [writeC, if_pos h6]
    simp only [moveC, incF, u0, u3, u4, ht]
    exact h2
  have HF := Lib.hid hF
  clear hF u0 u3 u4
  have hw1 : IntKind.i64.wrap (core + 1) = core + 1 := IntWalk.i64_in _ (by omega)
  cases k1 : (C (2 + i * 5 + 3) == core + 1) <;> cases k2 : decide (0 < C (2 + i * 5 + 4)) <;> cases k3 : (C (2 + i * 5 + 4) != core + 1)
  all_goals
    have t1 := Lib.hid (test3 _ _ _ _ _ _ k1 k2 k3)
    refine wp_region_lexA ⟨[], []⟩ (fun w' => w'.cell? ⟨b, 2 + i * 5 + 3, none⟩ = some (.int .i64 (C (2 + i * 5 + 3))) ∧ w'.cell? ⟨b, 2 + i * 5 + 4, none⟩ = some (.int .i64 (C (2 + i * 5 + 4)))) (by kernel_rfl) (by kernel_rfl) ⟨c3, c4⟩ ?_
    intro S hto hof hne
    have hx3 : ∀ x : Wd S, x.w.cell? ⟨b, 2 + i * 5 + 3, none⟩ = some (.int .i64 (C (2 + i * 5 + 3))) := fun x => (hto x).1
    have hx4 : ∀ x : Wd S, x.w.cell? ⟨b, 2 + i * 5 + 4, none⟩ = some (.int .i64 (C (2 + i * 5 + 4))) := fun x => (hto x).2
    have Hof := Lib.hid hof
    clear hto hof
    refine lexW_light 26 (by kernel_rfl) ?_
    simp only [List.take_succ_cons, List.take_zero, List.drop_succ_cons, List.drop_zero]
    repeat (first | go_big_quiet_skip | (go_big_quiet_want; go_big_quiet_op; go_big_quiet_on))
    refine wpQuiet_nil ?_
    refine lexW_heavy (by kernel_rfl) ?_
    go_wp2_with (first | (go_at_call 35; refine (count_any _ _ _ (C (2 + i * 5)) _ ?_ ?_ b0.1 b0.2).mono ?_; (go_simp); (go_simp); rintro e w' ⟨rfl, rfl⟩))
    refine lexQ_done (Hof.out _ ⟨?_, ?_⟩) ?_
    · exact (World.cell?_setCell_other w1 _ _ _ (by intro h; injection h with _ h2; omega)).trans c3
    · exact (World.cell?_setCell_other w1 _ _ _ (by intro h; injection h with _ h2; omega)).trans c4
    go_wp2
    go_ret
    exact HF.out _ t1.out _ (hA.drewN 1) (grown_drewN hG 1)

set_option maxHeartbeats 1000000 in
theorem note_write (b : Nat) (C : Nat → Int) (line core holders : Int) (i : Nat) (w : World) (h : AdaptAt w b C) (hi : areaF line = (i : Int)) (hi8 : i < 8) (h3 : 0 ≤ core) (h4 : core < 64) (h5 : 0 ≤ holders) (h6 : holders < 3)
    (hb : ∀ j, j < 3 → 0 ≤ C (2 + i * 5 + j) ∧ C (2 + i * 5 + j) ≤ 15) :
    Calls Tryd.prog 16 #[.pointer (some ⟨b, 0, none⟩), .int .i64 line, .int .i64 2, .int .i64 core, .int .i64 holders] w (AdaptPost b (writeC C i core holders) w true) := by
  have HI := Lib.hid hi
  clear hi
  have b0 := hb 0 (by omega)
  have b1 := hb 1 (by omega)
  have c1 := h.cell (2 + i * 5 + 1) (by omega)
  have f1 := h.froz (2 + i * 5 + 1) (by omega)
  have b2 := hb 2 (by omega)
  have c2 := h.cell (2 + i * 5 + 2) (by omega)
  have f2 := h.froz (2 + i * 5 + 2) (by omega)
  have hd3 : decide (3 ≤ holders) = false := by simp; omega
  go_enter Tryd.func16, Tryd.ntmps16
  go_wp2_with (first | (go_at_call 25; refine (area_any _ _).mono ?_; rintro e w' ⟨rfl, rfl⟩; rw [HI.out]) | (go_at_call_of 35 (Value.pointer (some { block := b, off := 2 + i * 5 + 1 })); refine (count_any _ _ _ (C (2 + i * 5 + 1)) _ ?_ ?_ b1.1 b1.2).mono ?_; (go_simp); (go_simp); rintro e w' ⟨rfl, rfl⟩) | (go_at_call_of 35 (Value.pointer (some { block := b, off := 2 + i * 5 + 2 })); refine (count_any _ _ _ (C (2 + i * 5 + 2)) _ ?_ ?_ b2.1 b2.2).mono ?_; (go_simp); (go_simp); rintro e w' ⟨rfl, rfl⟩))
  have hA := h
  have hA := hA.set (k := 2 + i * 5 + 1) (by omega) (cntF false (C (2 + i * 5 + 1)))
  have hA := hA.set (k := 2 + i * 5 + 2) (by omega) (cntF false (C (2 + i * 5 + 2)))
  have hG : w.grownBy (World.setCell (World.setCell w ⟨b, 2 + i * 5 + 1, none⟩ (.int .i64 (cntF false (C (2 + i * 5 + 1))))) ⟨b, 2 + i * 5 + 2, none⟩ (.int .i64 (cntF false (C (2 + i * 5 + 2))))) (some b) := grown_set (grown_set (World.grownBy.refl w (some b)))
  clear c1 f1 c2 f2
  generalize (World.setCell (World.setCell w ⟨b, 2 + i * 5 + 1, none⟩ (.int .i64 (cntF false (C (2 + i * 5 + 1))))) ⟨b, 2 + i * 5 + 2, none⟩ (.int .i64 (cntF false (C (2 + i * 5 + 2))))) = w1 at *
  have c0 := hA.cell (2 + i * 5) (by omega)
  have c3 := hA.cell (2 + i * 5 + 3) (by omega)
  have c4 := hA.cell (2 + i * 5 + 4) (by omega)
  have f0 := hA.froz (2 + i * 5) (by omega)
  have f4 := hA.froz (2 + i * 5 + 4) (by omega)
  have u0 : (updC (updC C (2 + i * 5 + 1) (cntF false (C (2 + i * 5 + 1)))) (2 + i * 5 + 2) (cntF false (C (2 + i * 5 + 2)))) (2 + i * 5) = C (2 + i * 5) := by simp [updC]
  have u3 : (updC (updC C (2 + i * 5 + 1) (cntF false (C (2 + i * 5 + 1)))) (2 + i * 5 + 2) (cntF false (C (2 + i * 5 + 2)))) (2 + i * 5 + 3) = C (2 + i * 5 + 3) := by simp [updC]
  have u4 : (updC (updC C (2 + i * 5 + 1) (cntF false (C (2 + i * 5 + 1)))) (2 + i * 5 + 2) (cntF false (C (2 + i * 5 + 2)))) (2 + i * 5 + 4) = C (2 + i * 5 + 4) := by simp [updC]
  rw [u0] at c0
  rw [u3] at c3
  rw [u4] at c4
  have hF : ∀ t : Bool, (decide (C (2 + i * 5 + 3) = core + 1) && decide (0 < C (2 + i * 5 + 4)) && !decide (C (2 + i * 5 + 4) = core + 1)) = t → ∀ w2 : World, AdaptAt w2 b (updC (updC C (2 + i * 5 + 1) (cntF false (C (2 + i * 5 + 1)))) (2 + i * 5 + 2) (cntF false (C (2 + i * 5 + 2)))) → w.grownBy w2 (some b) →
      AdaptPost b (writeC C i core holders) w true (.returned (.bool true)) ((w2.setCell ⟨b, 2 + i * 5, none⟩ (.int .i64 (cntF t (C (2 + i * 5))))).setCell ⟨b, 2 + i * 5 + 4, none⟩ (.int .i64 (core + 1))) := by
    intro t ht w2 hA hG
    refine ⟨rfl, ?_, grown_set (grown_set hG)⟩
    have h2 := (hA.set (k := 2 + i * 5) (by omega) (cntF t (C (2 + i * 5)))).set (k := 2 + i * 5 + 4) (by omega) (core + 1)
    rw [writeC, if_neg (by omega)]
    simp only [moveC, decF, u0, u3, u4, ht]
    exact h2
  have HF := Lib.hid hF
  clear hF u0 u3 u4
  have hw1 : IntKind.i64.wrap (core + 1) = core + 1 := IntWalk.i64_in _ (by omega)
  cases k1 : (C (2 + i * 5 + 3) == core + 1) <;> cases k2 : decide (0 < C (2 + i * 5 + 4)) <;> cases k3 : (C (2 + i * 5 + 4) != core + 1)
  all_goals
    have t1 := Lib.hid (test3 _ _ _ _ _ _ k1 k2 k3)
    refine wp_region_lexA ⟨[], []⟩ (fun w' => w'.cell? ⟨b, 2 + i * 5 + 3, none⟩ = some (.int .i64 (C (2 + i * 5 + 3))) ∧ w'.cell? ⟨b, 2 + i * 5 + 4, none⟩ = some (.int .i64 (C (2 + i * 5 + 4)))) (by kernel_rfl) (by kernel_rfl) ⟨c3, c4⟩ ?_
    intro S hto hof hne
    have hx3 : ∀ x : Wd S, x.w.cell? ⟨b, 2 + i * 5 + 3, none⟩ = some (.int .i64 (C (2 + i * 5 + 3))) := fun x => (hto x).1
    have hx4 : ∀ x : Wd S, x.w.cell? ⟨b, 2 + i * 5 + 4, none⟩ = some (.int .i64 (C (2 + i * 5 + 4))) := fun x => (hto x).2
    have Hof := Lib.hid hof
    clear hto hof
    refine lexW_light 26 (by kernel_rfl) ?_
    simp only [List.take_succ_cons, List.take_zero, List.drop_succ_cons, List.drop_zero]
    repeat (first | go_big_quiet_skip | (go_big_quiet_want; go_big_quiet_op; go_big_quiet_on))
    refine wpQuiet_nil ?_
    refine lexW_heavy (by kernel_rfl) ?_
    go_wp2_with (first | (go_at_call 35; refine (count_any _ _ _ (C (2 + i * 5)) _ ?_ ?_ b0.1 b0.2).mono ?_; (go_simp); (go_simp); rintro e w' ⟨rfl, rfl⟩))
    refine lexQ_done (Hof.out _ ⟨?_, ?_⟩) ?_
    · exact (World.cell?_setCell_other w1 _ _ _ (by intro h; injection h with _ h2; omega)).trans c3
    · exact (World.cell?_setCell_other w1 _ _ _ (by intro h; injection h with _ h2; omega)).trans c4
    go_wp2
    go_ret
    exact HF.out _ t1.out _ (hA.drewN 1) (grown_drewN hG 1)

set_option maxHeartbeats 400000 in
theorem note_bad (b : Nat) (line kind core holders : Int) (w : World) (h : ¬ (0 ≤ areaF line ∧ 0 ≤ core ∧ core < 64 ∧ 0 ≤ holders)) :
    Calls Tryd.prog 16 #[.pointer (some ⟨b, 0, none⟩), .int .i64 line, .int .i64 kind, .int .i64 core, .int .i64 holders] w fun e w' => e = .returned (.bool false) ∧ w = w' := by
  have h' : areaF line < 0 ∨ (0 ≤ areaF line ∧ core < 0) ∨ (0 ≤ areaF line ∧ 0 ≤ core ∧ 64 ≤ core) ∨ (0 ≤ areaF line ∧ 0 ≤ core ∧ core < 64 ∧ holders < 0) := by omega
  clear h
  rcases h' with h1 | ⟨h1, h2⟩ | ⟨h1, h2, h3⟩ | ⟨h1, h2, h3, h4⟩
  all_goals
    go_enter Tryd.func16, Tryd.ntmps16
    go_wp2_with (go_at_call 25; refine (area_any _ _).mono ?_; rintro e w' ⟨rfl, rfl⟩)
    go_ret
    exact ⟨rfl, rfl⟩

set_option maxHeartbeats 400000 in
theorem note_none (b : Nat) (line kind core holders : Int) (i : Nat) (w : World) (hi : areaF line = (i : Int)) (hi8 : i < 8) (h3 : 0 ≤ core) (h4 : core < 64) (h5 : 0 ≤ holders)
    (k1 : (kind == 1) = false) (k2 : (kind == 2) = false) (k3 : (kind == 3) = false) :
    Calls Tryd.prog 16 #[.pointer (some ⟨b, 0, none⟩), .int .i64 line, .int .i64 kind, .int .i64 core, .int .i64 holders] w fun e w' => e = .returned (.bool false) ∧ w = w' := by
  have HI := Lib.hid hi
  clear hi
  go_enter Tryd.func16, Tryd.ntmps16
  go_wp2_with (go_at_call 25; refine (area_any _ _).mono ?_; rintro e w' ⟨rfl, rfl⟩; rw [HI.out])
  go_ret
  exact ⟨rfl, rfl⟩

end Go.Proofs.YtaecihljgbjmcaaDoor
