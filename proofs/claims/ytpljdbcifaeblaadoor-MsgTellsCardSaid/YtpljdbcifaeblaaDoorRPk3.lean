/- The document's own reader: In and End. -/
import Derived.Test.YtpljdbcifaeblaaDoorRPk2
namespace Go.Proofs.YtpljdbcifaeblaaDoor
open Go.RowKit Go.Extern.Stop Go.Stop Go.Extern

set_option maxRecDepth 100000 in
set_option maxHeartbeats 8000000 in
theorem rrin_c (b : Nat) (v : Value) (L : List Nat) (at_ code place : Nat) (lo hi : Int) (w : World) (h : RRAt w b v L at_ code place) :
    Calls Tryd.prog 53 #[.pointer (some ⟨b, 0, none⟩), .int .i64 lo, .int .i64 hi] w fun ev w' => ev = .returned (.int .i64 (stepQ L at_ code place (inOk lo hi)).1) ∧ RRAt w' b v L (stepQ L at_ code place (inOk lo hi)).2.1 (stepQ L at_ code place (inOk lo hi)).2.2.1 (stepQ L at_ code place (inOk lo hi)).2.2.2 ∧ Mods (onlyS b) w w' := by
  have c1 := cell_of h.blk 1
  simp only [List.getElem?_toArray, List.getElem?_cons_zero, List.getElem?_cons_succ] at c1
  have HH := Lib.hid h
  have hle := h.le
  clear h
  by_cases h0 : code = 0
  · subst h0
    rcases nxt_or L at_ hle with ⟨n, a, hx, ha⟩ | ⟨s, hx, _⟩
    · have hq : stepQ L at_ 0 place (fun _ => true) = (n, a, 0, place) := by simp [stepQ, hx]
      have HQ := Lib.hid hq
      have HAA := Lib.hid ha
      clear hq ha hle
      cases hok : inOk lo hi n with
      | true =>
        have hr : stepQ L at_ 0 place (inOk lo hi) = (n, a, 0, place) := by simp [stepQ, hx, hok]
        rw [hr]
        simp only [inOk, Bool.and_eq_true, decide_eq_true_eq] at hok
        have g1 : decide (n < lo) = false := by simp; omega
        have g2 : decide (n > hi) = false := by simp; omega
        clear hr hx hok
        go_enter Tryd.func53, Tryd.ntmps53
        go_wp2_with fail
        refine (rrnum_c b v L at_ 0 place w HH.out).mono ?_
        rintro ev w1 ⟨rfl, hR1, hM1⟩
        rw [HQ.out] at hR1 ⊢
        simp only at hR1 ⊢
        have d2 := cell_of hR1.blk 2
        simp only [List.getElem?_toArray, List.getElem?_cons_zero, List.getElem?_cons_succ] at d2
        have HR1 := Lib.hid hR1
        have HM1 := Lib.hid hM1
        clear hR1 hM1 c1
        go_wp2_with fail
        go_ret
        exact ⟨rfl, HR1.out, HM1.out⟩
      | false =>
        have hr : stepQ L at_ 0 place (inOk lo hi) = (0, at_, 4, at_) := by simp [stepQ, hx, hok]
        rw [hr]
        have hne : n < lo ∨ ¬ n < lo ∧ n > hi := by
          simp only [inOk, Bool.and_eq_false_iff, decide_eq_false_iff_not] at hok
          omega
        clear hr hx hok
        rcases hne with hne | ⟨hne, hne2⟩
        · have g1 : decide (n < lo) = true := by simp; omega
          clear hne
          go_enter Tryd.func53, Tryd.ntmps53
          go_wp2_with fail
          refine (rrnum_c b v L at_ 0 place w HH.out).mono ?_
          rintro ev w1 ⟨rfl, hR1, hM1⟩
          rw [HQ.out] at hR1 ⊢
          simp only at hR1 ⊢
          have d2 := cell_of hR1.blk 2
          have d1 := cell_of hR1.blk 1
          have z1 := frozen_of hR1.blk 1
          simp only [List.getElem?_toArray, List.getElem?_cons_zero, List.getElem?_cons_succ] at d2 d1
          have HR1 := Lib.hid hR1
          have HM1 := Lib.hid hM1
          clear hR1 hM1 c1
          go_wp2_with fail
          have hM2 : Mods (onlyS b) w1 (w1.setCell ⟨b, 1, none⟩ (.int .i64 at_)) := (Mods.refl (onlyS b) w1).setCell (p := ⟨b, 1, none⟩) (show onlyS b b from rfl) _
          have hR2 := HR1.out.turn (at2 := at_) (code2 := 0) (place2 := place) hM2 (heap_setCell_at HR1.out.blk _) HH.out.le
          refine (rfail_c b v L at_ place 4 _ hR2).mono ?_
          rintro ev w4 ⟨rfl, hR4, hM4⟩
          have d2 := cell_of hR4.blk 2
          simp only [List.getElem?_toArray, List.getElem?_cons_zero, List.getElem?_cons_succ] at d2
          have HR4 := Lib.hid hR4
          have HM4 := Lib.hid ((HM1.out.trans hM2 fun _ _ h => h).trans hM4 fun _ _ h => h)
          clear hR4 hM4 hM2 hR2
          go_wp2_with fail
          go_ret
          exact ⟨rfl, HR4.out, HM4.out⟩
        · have g1 : decide (n < lo) = false := by simp; omega
          have g2 : decide (n > hi) = true := by simp; omega
          clear hne hne2
          go_enter Tryd.func53, Tryd.ntmps53
          go_wp2_with fail
          refine (rrnum_c b v L at_ 0 place w HH.out).mono ?_
          rintro ev w1 ⟨rfl, hR1, hM1⟩
          rw [HQ.out] at hR1 ⊢
          simp only at hR1 ⊢
          have d2 := cell_of hR1.blk 2
          have d1 := cell_of hR1.blk 1
          have z1 := frozen_of hR1.blk 1
          simp only [List.getElem?_toArray, List.getElem?_cons_zero, List.getElem?_cons_succ] at d2 d1
          have HR1 := Lib.hid hR1
          have HM1 := Lib.hid hM1
          clear hR1 hM1 c1
          go_wp2_with fail
          have hM2 : Mods (onlyS b) w1 (w1.setCell ⟨b, 1, none⟩ (.int .i64 at_)) := (Mods.refl (onlyS b) w1).setCell (p := ⟨b, 1, none⟩) (show onlyS b b from rfl) _
          have hR2 := HR1.out.turn (at2 := at_) (code2 := 0) (place2 := place) hM2 (heap_setCell_at HR1.out.blk _) HH.out.le
          refine (rfail_c b v L at_ place 4 _ hR2).mono ?_
          rintro ev w4 ⟨rfl, hR4, hM4⟩
          have d2 := cell_of hR4.blk 2
          simp only [List.getElem?_toArray, List.getElem?_cons_zero, List.getElem?_cons_succ] at d2
          have HR4 := Lib.hid hR4
          have HM4 := Lib.hid ((HM1.out.trans hM2 fun _ _ h => h).trans hM4 fun _ _ h => h)
          clear hR4 hM4 hM2 hR2
          go_wp2_with fail
          go_ret
          exact ⟨rfl, HR4.out, HM4.out⟩
    · have hq : stepQ L at_ 0 place (fun _ => true) = (0, at_, s + 1, at_) := by simp [stepQ, hx]
      have hr : stepQ L at_ 0 place (inOk lo hi) = (0, at_, s + 1, at_) := by simp [stepQ, hx]
      rw [hr]
      have HQ := Lib.hid hq
      have g1 : (((s + 1 : Nat) : Int) == 0) = false := by simp; omega
      have g2 : (((s + 1 : Nat) : Int) != 0) = true := by simp; omega
      obtain ⟨sc, hsc⟩ : ∃ sc : Nat, s + 1 = sc := ⟨_, rfl⟩
      rw [hsc] at g1 g2
      have HSC := Lib.hid hsc
      clear hq hr hx hle hsc
      go_enter Tryd.func53, Tryd.ntmps53
      go_wp2_with fail
      refine (rrnum_c b v L at_ 0 place w HH.out).mono ?_
      rintro ev w1 ⟨rfl, hR1, hM1⟩
      rw [HQ.out] at hR1 ⊢
      simp only [HSC.out] at hR1 ⊢
      have d2 := cell_of hR1.blk 2
      simp only [List.getElem?_toArray, List.getElem?_cons_zero, List.getElem?_cons_succ] at d2
      have HR1 := Lib.hid hR1
      have HM1 := Lib.hid hM1
      clear hR1 hM1 c1
      go_wp2_with fail
      go_ret
      exact ⟨rfl, by rw [HSC.out]; exact HR1.out, HM1.out⟩
  · have hr : ∀ ok, stepQ L at_ code place ok = (0, at_, code, place) := fun ok => by unfold stepQ; rw [if_neg h0]
    rw [hr]
    have HQ := Lib.hid (hr fun _ => true)
    have g2 : ((code : Int) != 0) = true := by simp; omega
    have g1 : ((code : Int) == 0) = false := by simp; omega
    clear hr h0 hle
    go_enter Tryd.func53, Tryd.ntmps53
    go_wp2_with fail
    refine (rrnum_c b v L at_ code place w HH.out).mono ?_
    rintro ev w1 ⟨rfl, hR1, hM1⟩
    rw [HQ.out] at hR1 ⊢
    simp only at hR1 ⊢
    have d2 := cell_of hR1.blk 2
    simp only [List.getElem?_toArray, List.getElem?_cons_zero, List.getElem?_cons_succ] at d2
    have HR1 := Lib.hid hR1
    have HM1 := Lib.hid hM1
    clear hR1 hM1 c1
    go_wp2_with fail
    go_ret
    exact ⟨rfl, HR1.out, HM1.out⟩

/-- What End answers. -/
def endQ (L : List Nat) (at_ code place : Nat) : Nat × Nat := if code = 0 ∧ at_ < L.length then (5, at_) else (code, place)

set_option maxRecDepth 100000 in
set_option maxHeartbeats 8000000 in
theorem rrend_c (b : Nat) (v : Value) (L : List Nat) (at_ code place : Nat) (w : World) (h : RRAt w b v L at_ code place) :
    Calls Tryd.prog 54 #[.pointer (some ⟨b, 0, none⟩)] w fun ev w' => ev = .returned (.int .i64 (endQ L at_ code place).1) ∧ RRAt w' b v L at_ (endQ L at_ code place).1 (endQ L at_ code place).2 ∧ Mods (onlyS b) w w' := by
  have c0 := cell_of h.blk 0
  have c1 := cell_of h.blk 1
  have c2 := cell_of h.blk 2
  simp only [List.getElem?_toArray, List.getElem?_cons_zero, List.getElem?_cons_succ] at c0 c1 c2
  have HH := Lib.hid h
  have hlt := h.lt
  obtain ⟨_, ad, cap, hvv, _⟩ := h.row
  have HVV := Lib.hid hvv
  rw [hvv] at c0
  clear h hvv
  by_cases h0 : code = 0
  · subst h0
    by_cases hal : at_ < L.length
    · have hr : endQ L at_ 0 place = (5, at_) := by simp [endQ, hal]
      rw [hr]
      have g1 : decide ((at_ : Int) < (L.length : Int)) = true := by simp; omega
      clear hr
      go_enter Tryd.func54, Tryd.ntmps54
      go_wp2_with fail
      refine wp_region_lexA ⟨[], []⟩ (fun x => Below w.heap.size w x) (by kernel_rfl) (by kernel_rfl) (Below.refl _ _).drew ?_
      intro S hto hof hne
      have x0 : ∀ z : Wd S, z.w.cell? ⟨b, 0, none⟩ = some (.slice ad L.length cap) := fun z => ((hto z).cell (p := ⟨b, 0, none⟩) hlt).trans c0
      have x1 : ∀ z : Wd S, z.w.cell? ⟨b, 1, none⟩ = some (.int .i64 at_) := fun z => ((hto z).cell (p := ⟨b, 1, none⟩) hlt).trans c1
      have x2 : ∀ z : Wd S, z.w.cell? ⟨b, 2, none⟩ = some (.int .i64 (0 : Nat)) := fun z => ((hto z).cell (p := ⟨b, 2, none⟩) hlt).trans c2
      have Hof := Lib.hid hof
      clear hto hof c0 c1 c2
      refine lexW_light 17 (by kernel_rfl) ?_
      simp only [List.take_succ_cons, List.take_zero, List.drop_succ_cons, List.drop_zero]
      repeat (first | go_big_quiet_skip | (go_big_quiet_want; go_big_quiet_op; go_big_quiet_on))
      refine wpQuiet_nil ?_
      refine lexW_done ?_
      clear x0 x1 x2
      go_wp2_with fail
      refine (rfail_c b v L at_ place 5 _ (HH.out.below (Below.refl _ _).drew)).mono ?_
      rintro ev w4 ⟨rfl, hR4, hM4⟩
      have d2 := cell_of hR4.blk 2
      simp only [List.getElem?_toArray, List.getElem?_cons_zero, List.getElem?_cons_succ] at d2
      have HR4 := Lib.hid hR4
      have HM4 := Lib.hid hM4
      clear hR4 hM4
      go_wp2_with fail
      go_ret
      exact ⟨rfl, HR4.out, (Mods.of_below (Below.refl w.heap.size w).drew).trans HM4.out fun _ _ h => h⟩
    · have hr : endQ L at_ 0 place = (0, place) := by simp [endQ, hal]
      rw [hr]
      have g1 : decide ((at_ : Int) < (L.length : Int)) = false := by simp; omega
      clear hr
      go_enter Tryd.func54, Tryd.ntmps54
      go_wp2_with fail
      refine wp_region_lexA ⟨[], []⟩ (fun x => Below w.heap.size w x) (by kernel_rfl) (by kernel_rfl) (Below.refl _ _).drew ?_
      intro S hto hof hne
      have x0 : ∀ z : Wd S, z.w.cell? ⟨b, 0, none⟩ = some (.slice ad L.length cap) := fun z => ((hto z).cell (p := ⟨b, 0, none⟩) hlt).trans c0
      have x1 : ∀ z : Wd S, z.w.cell? ⟨b, 1, none⟩ = some (.int .i64 at_) := fun z => ((hto z).cell (p := ⟨b, 1, none⟩) hlt).trans c1
      have x2 : ∀ z : Wd S, z.w.cell? ⟨b, 2, none⟩ = some (.int .i64 (0 : Nat)) := fun z => ((hto z).cell (p := ⟨b, 2, none⟩) hlt).trans c2
      have Hof := Lib.hid hof
      have c2d : w.drew.cell? ⟨b, 2, none⟩ = some (.int .i64 (0 : Nat)) := c2
      clear hto hof c0 c1 c2
      refine lexW_light 17 (by kernel_rfl) ?_
      simp only [List.take_succ_cons, List.take_zero, List.drop_succ_cons, List.drop_zero]
      repeat (first | go_big_quiet_skip | (go_big_quiet_want; go_big_quiet_op; go_big_quiet_on))
      refine wpQuiet_nil ?_
      refine lexW_done ?_
      clear x0 x1 x2
      go_wp2_with fail
      go_ret
      exact ⟨rfl, HH.out.below (Below.refl _ _).drew, Mods.of_below (Below.refl _ _).drew⟩
  · have hr : endQ L at_ code place = (code, place) := by unfold endQ; rw [if_neg (by omega)]
    rw [hr]
    have g2 : ((code : Int) != 0) = true := by simp; omega
    have g1 : ((code : Int) == 0) = false := by simp; omega
    clear hr h0
    go_enter Tryd.func54, Tryd.ntmps54
    go_wp2_with fail
    refine wp_region_lexA ⟨[], []⟩ (fun x => Below w.heap.size w x) (by kernel_rfl) (by kernel_rfl) (Below.refl _ _).drew ?_
    intro S hto hof hne
    have x2 : ∀ z : Wd S, z.w.cell? ⟨b, 2, none⟩ = some (.int .i64 code) := fun z => ((hto z).cell (p := ⟨b, 2, none⟩) hlt).trans c2
    have Hof := Lib.hid hof
    have c2d : w.drew.cell? ⟨b, 2, none⟩ = some (.int .i64 code) := c2
    clear hto hof c0 c1 c2
    refine lexW_light 17 (by kernel_rfl) ?_
    simp only [List.take_succ_cons, List.take_zero, List.drop_succ_cons, List.drop_zero]
    repeat (first | go_big_quiet_skip | (go_big_quiet_want; go_big_quiet_op; go_big_quiet_on))
    refine wpQuiet_nil ?_
    refine lexW_done ?_
    clear x2
    go_wp2_with fail
    go_ret
    exact ⟨rfl, HH.out.below (Below.refl _ _).drew, Mods.of_below (Below.refl _ _).drew⟩

end Go.Proofs.YtpljdbcifaeblaaDoor
