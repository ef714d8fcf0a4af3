/- The reader's In and End. -/
import Derived.Test.YtpljdbcifaeblaaDoorRd3
namespace Go.Proofs.YtpljdbcifaeblaaDoor
open Go.RowKit Go.Extern.Stop Go.Stop Go.Extern

def inOk (lo hi : Int) (n : Int) : Bool := decide (lo ≤ n) && decide (n ≤ hi)

set_option maxRecDepth 100000 in
set_option maxHeartbeats 4000000 in
theorem rin_c (A : Nat → Addr) (b : Nat) (v : Value) (L : List Nat) (at_ : Nat) (e : ErrT) (lo hi : Int) (w : World) (hs : SentAt w A) (h : RdAt w A b v L at_ e) :
    Calls Tryd.prog 52 #[.pointer (some ⟨b, 0, none⟩), .int .i64 lo, .int .i64 hi] w fun ev w' => ev = .returned (.int .i64 (stepR L at_ e (inOk lo hi)).1) ∧ RdAt w' A b v L (stepR L at_ e (inOk lo hi)).2.1 (stepR L at_ e (inOk lo hi)).2.2 ∧ Mods (onlyS b) w w' := by
  have c2 := cell_of h.blk 2
  simp only [List.getElem?_toArray, List.getElem?_cons_zero, List.getElem?_cons_succ] at c2
  have HH := Lib.hid h
  have HS := Lib.hid hs
  clear hs
  cases hn : e.isNil with
  | false =>
    obtain ⟨t2, u2, hev⟩ := e.val_iface A hn
    have hr : stepR L at_ e (inOk lo hi) = (0, at_, e) := by unfold stepR; rw [hn]; rfl
    rw [hr]
    rw [hev] at c2
    clear hev hr h
    go_enter Tryd.func52, Tryd.ntmps52
    go_wp2_with fail
    go_ret
    exact ⟨rfl, HH.out, Mods.refl _ _⟩
  | true =>
    obtain rfl : e = .nil := by cases e <;> first | rfl | cases hn
    simp only [ErrT.val] at c2
    have hle := h.le
    clear h
    rcases nxt_or L at_ hle with ⟨n, a, hx, ha⟩ | ⟨s, hx, hs23⟩
    · by_cases h1 : lo ≤ n
      · by_cases h2 : n ≤ hi
        · have hr : stepR L at_ .nil (inOk lo hi) = (n, a, .nil) := by simp [stepR, hx, ErrT.isNil, inOk, h1, h2]
          rw [hr]
          have g1 : decide (n < lo) = false := by simp; omega
          have g2 : decide (n > hi) = false := by simp; omega
          have HX := Lib.hid hx
          clear hr hx h1 h2
          go_enter Tryd.func52, Tryd.ntmps52
          go_wp2_with fail
          refine (next_c A b v L at_ .nil w HS.out HH.out).mono ?_
          rintro ev w1 ⟨rfl, hb1⟩
          rw [HX.out]
          have H1 := Lib.hid (HH.out.below hb1)
          rw [show ErrT.nil.val A = .nilIface from rfl]
          clear c2
          have z1 := frozen_of H1.out.blk 1
          have k1 := cell_of H1.out.blk 1
          simp only [List.getElem?_toArray, List.getElem?_cons_zero, List.getElem?_cons_succ] at k1
          go_wp2_with fail
          go_ret
          have hm : Mods (onlyS b) w1 (w1.setCell ⟨b, 1, none⟩ (.int .i64 a)) := (Mods.refl (onlyS b) w1).setCell (p := ⟨b, 1, none⟩) (show onlyS b b from rfl) _
          exact ⟨rfl, H1.out.turn hm (heap_setCell_at H1.out.blk _) ha, (Mods.of_below hb1).trans hm fun _ _ h => h⟩
        · have hr : stepR L at_ .nil (inOk lo hi) = (0, at_, .wrap prT at_ (.sent 3)) := by
            have : inOk lo hi n = false := by simp [inOk]; omega
            simp [stepR, hx, ErrT.isNil, this]
          rw [hr]
          have g1 : decide (n < lo) = false := by simp; omega
          have g2 : decide (n > hi) = true := by simp; omega
          clear h1 h2
          have HX := Lib.hid hx
          clear hr hx
          go_enter Tryd.func52, Tryd.ntmps52
          go_wp2_with fail
          refine (next_c A b v L at_ .nil w HS.out HH.out).mono ?_
          rintro ev w1 ⟨rfl, hb1⟩
          rw [HX.out]
          have H1 := Lib.hid (HH.out.below hb1)
          rw [show ErrT.nil.val A = .nilIface from rfl]
          clear c2
          have hg3 := (HS.out.below hb1).glob 3 (by omega)
          simp only [gnum] at hg3
          go_wp2_with fail
          change Calls Tryd.prog _ #[_, (ErrT.sent 3).val A] _ _
          refine (fail_c A b v L at_ .nil 3 w1 H1.out).mono ?_
          rintro ev w2 ⟨rfl, h2, hm2⟩
          go_wp2_with fail
          go_ret
          exact ⟨rfl, h2, (Mods.of_below hb1).trans hm2 fun _ _ h => h⟩
      · have hr : stepR L at_ .nil (inOk lo hi) = (0, at_, .wrap prT at_ (.sent 3)) := by
          have : inOk lo hi n = false := by simp [inOk]; omega
          simp [stepR, hx, ErrT.isNil, this]
        rw [hr]
        have g1 : decide (n < lo) = true := by simp; omega
        clear h1
        have HX := Lib.hid hx
        clear hr hx
        go_enter Tryd.func52, Tryd.ntmps52
        go_wp2_with fail
        refine (next_c A b v L at_ .nil w HS.out HH.out).mono ?_
        rintro ev w1 ⟨rfl, hb1⟩
        rw [HX.out]
        have H1 := Lib.hid (HH.out.below hb1)
        rw [show ErrT.nil.val A = .nilIface from rfl]
        clear c2
        have hg3 := (HS.out.below hb1).glob 3 (by omega)
        simp only [gnum] at hg3
        go_wp2_with fail
        change Calls Tryd.prog _ #[_, (ErrT.sent 3).val A] _ _
        refine (fail_c A b v L at_ .nil 3 w1 H1.out).mono ?_
        rintro ev w2 ⟨rfl, h2, hm2⟩
        go_wp2_with fail
        go_ret
        exact ⟨rfl, h2, (Mods.of_below hb1).trans hm2 fun _ _ h => h⟩
    · have hr : stepR L at_ .nil (inOk lo hi) = (0, at_, .wrap prT at_ (.sent s)) := by simp [stepR, hx, ErrT.isNil]
      rw [hr]
      have HX := Lib.hid hx
      clear hr hx
      go_enter Tryd.func52, Tryd.ntmps52
      go_wp2_with fail
      refine (next_c A b v L at_ .nil w HS.out HH.out).mono ?_
      rintro ev w1 ⟨rfl, hb1⟩
      rw [HX.out]
      have H1 := Lib.hid (HH.out.below hb1)
      rw [show (ErrT.sent s).val A = .iface 138 (.pointer (some (A s))) from rfl]
      clear c2
      go_wp2_with fail
      change Calls Tryd.prog _ #[_, (ErrT.sent s).val A] _ _
      refine (fail_c A b v L at_ .nil s w1 H1.out).mono ?_
      rintro ev w2 ⟨rfl, h2, hm2⟩
      go_wp2_with fail
      go_ret
      exact ⟨rfl, h2, (Mods.of_below hb1).trans hm2 fun _ _ h => h⟩


/-- What End answers. -/
def endE (L : List Nat) (at_ : Nat) (e : ErrT) : ErrT := if e.isNil then (if at_ < L.length then .wrap prT at_ (.sent 4) else .nil) else e

set_option maxRecDepth 100000 in
set_option maxHeartbeats 4000000 in
theorem rend_c (A : Nat → Addr) (b : Nat) (v : Value) (L : List Nat) (at_ : Nat) (e : ErrT) (w : World) (hs : SentAt w A) (h : RdAt w A b v L at_ e) :
    Calls Tryd.prog 45 #[.pointer (some ⟨b, 0, none⟩)] w fun ev w' => ev = .returned ((endE L at_ e).val A) ∧ RdAt w' A b v L at_ (endE L at_ e) ∧ Mods (onlyS b) w w' := by
  have c0 := cell_of h.blk 0
  have c1 := cell_of h.blk 1
  have c2 := cell_of h.blk 2
  simp only [List.getElem?_toArray, List.getElem?_cons_zero, List.getElem?_cons_succ] at c0 c1 c2
  have HH := Lib.hid h
  have HS := Lib.hid hs
  have hlt := h.lt
  obtain ⟨_, ad, cap, hvv, _⟩ := h.row
  rw [hvv] at c0
  clear hs hvv
  cases hn : e.isNil with
  | false =>
    obtain ⟨t2, u2, hev⟩ := e.val_iface A hn
    have hr : endE L at_ e = e := by simp [endE, hn]
    have HR := Lib.hid hr
    have HEV := Lib.hid hev
    rw [hr, hev]
    rw [hev] at c2
    clear hev hr h
    go_enter Tryd.func45, Tryd.ntmps45
    go_wp2_with fail
    refine wp_region_lexA ⟨[], []⟩ (fun x => Below w.heap.size w x) (by kernel_rfl) (by kernel_rfl) (Below.refl _ _).drew ?_
    intro S hto hof hne
    have x2 : ∀ z : Wd S, z.w.cell? ⟨b, 2, none⟩ = some (.iface t2 u2) := fun z => ((hto z).cell (p := ⟨b, 2, none⟩) hlt).trans c2
    have Hof := Lib.hid hof
    have c2d : w.drew.cell? ⟨b, 2, none⟩ = some (.iface t2 u2) := c2
    clear hto hof c0 c1 c2
    refine lexW_light 17 (by kernel_rfl) ?_
    simp only [List.take_succ_cons, List.take_zero, List.drop_succ_cons, List.drop_zero]
    repeat (first | go_big_quiet_skip | (go_big_quiet_want; go_big_quiet_op; go_big_quiet_on))
    refine wpQuiet_nil ?_
    refine lexW_done ?_
    go_wp2_with fail
    go_ret
    exact ⟨rfl, HH.out.below (Below.refl _ _).drew, Mods.of_below (Below.refl _ _).drew⟩
  | true =>
    obtain rfl : e = .nil := by cases e <;> first | rfl | cases hn
    simp only [ErrT.val] at c2
    clear h
    by_cases hal : at_ < L.length
    · have hr : endE L at_ .nil = .wrap prT at_ (.sent 4) := by simp [endE, ErrT.isNil, hal]
      rw [hr]
      have g1 : decide ((at_ : Int) < (L.length : Int)) = true := by simp; omega
      clear hr
      go_enter Tryd.func45, Tryd.ntmps45
      go_wp2_with fail
      refine wp_region_lexA ⟨[], []⟩ (fun x => Below w.heap.size w x) (by kernel_rfl) (by kernel_rfl) (Below.refl _ _).drew ?_
      intro S hto hof hne
      have x0 : ∀ z : Wd S, z.w.cell? ⟨b, 0, none⟩ = some (.slice ad L.length cap) := fun z => ((hto z).cell (p := ⟨b, 0, none⟩) hlt).trans c0
      have x1 : ∀ z : Wd S, z.w.cell? ⟨b, 1, none⟩ = some (.int .i64 at_) := fun z => ((hto z).cell (p := ⟨b, 1, none⟩) hlt).trans c1
      have x2 : ∀ z : Wd S, z.w.cell? ⟨b, 2, none⟩ = some .nilIface := fun z => ((hto z).cell (p := ⟨b, 2, none⟩) hlt).trans c2
      have Hof := Lib.hid hof
      have hg4 := (HS.out.below (Below.refl w.heap.size w).drew).glob 4 (by omega)
      simp only [gnum] at hg4
      have HD := Lib.hid (HH.out.below (Below.refl w.heap.size w).drew)
      clear hto hof c0 c1 c2
      refine lexW_light 17 (by kernel_rfl) ?_
      simp only [List.take_succ_cons, List.take_zero, List.drop_succ_cons, List.drop_zero]
      repeat (first | go_big_quiet_skip | (go_big_quiet_want; go_big_quiet_op; go_big_quiet_on))
      refine wpQuiet_nil ?_
      refine lexW_done ?_
      clear x0 x1 x2
      go_wp2_with fail
      change Calls Tryd.prog _ #[_, (ErrT.sent 4).val A] _ _
      refine (fail_c A b v L at_ .nil 4 _ HD.out).mono ?_
      rintro ev w2 ⟨rfl, h2, hm2⟩
      have k2 := cell_of h2.blk 2
      simp only [List.getElem?_toArray, List.getElem?_cons_zero, List.getElem?_cons_succ] at k2
      rw [show (ErrT.wrap prT (at_ : Int) (.sent 4)).val A = .iface 80 (.agg #[.string prT, .int .i64 at_, .iface 138 (.pointer (some (A 4)))]) from rfl] at k2
      have H2 := Lib.hid h2
      clear h2 hg4
      go_wp2_with fail
      go_ret
      exact ⟨rfl, H2.out, (Mods.of_below (Below.refl w.heap.size w).drew).trans hm2 fun _ _ h => h⟩
    · have hr : endE L at_ .nil = .nil := by simp [endE, ErrT.isNil, hal]
      rw [hr]
      have g1 : decide ((at_ : Int) < (L.length : Int)) = false := by simp; omega
      clear hr
      go_enter Tryd.func45, Tryd.ntmps45
      go_wp2_with fail
      refine wp_region_lexA ⟨[], []⟩ (fun x => Below w.heap.size w x) (by kernel_rfl) (by kernel_rfl) (Below.refl _ _).drew ?_
      intro S hto hof hne
      have x0 : ∀ z : Wd S, z.w.cell? ⟨b, 0, none⟩ = some (.slice ad L.length cap) := fun z => ((hto z).cell (p := ⟨b, 0, none⟩) hlt).trans c0
      have x1 : ∀ z : Wd S, z.w.cell? ⟨b, 1, none⟩ = some (.int .i64 at_) := fun z => ((hto z).cell (p := ⟨b, 1, none⟩) hlt).trans c1
      have x2 : ∀ z : Wd S, z.w.cell? ⟨b, 2, none⟩ = some .nilIface := fun z => ((hto z).cell (p := ⟨b, 2, none⟩) hlt).trans c2
      have Hof := Lib.hid hof
      have c2d : w.drew.cell? ⟨b, 2, none⟩ = some .nilIface := c2
      clear hto hof c0 c1 c2
      refine lexW_light 17 (by kernel_rfl) ?_
      simp only [List.take_succ_cons, List.take_zero, List.drop_succ_cons, List.drop_zero]
      repeat (first | go_big_quiet_skip | (go_big_quiet_want; go_big_quiet_op; go_big_quiet_on))
      refine wpQuiet_nil ?_
      refine lexW_done ?_
      clear x0 x1 x2
      go_wp2_with fail
      go_ret
      exact ⟨rfl, HH.out.below (Below.refl _ _).drew, Mods.of_below (Below.refl _ _).drew⟩

end Go.Proofs.YtpljdbcifaeblaaDoor
