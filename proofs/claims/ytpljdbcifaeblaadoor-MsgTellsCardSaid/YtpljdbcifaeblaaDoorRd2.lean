/- The reader's next number. -/
import Derived.Test.YtpljdbcifaeblaaDoorRd1
import Derived.Test.YtpljdbcifaeblaaDoorPk3
namespace Go.Proofs.YtpljdbcifaeblaaDoor
open Go.RowKit Go.Extern.Stop Go.Stop Go.Extern

/-- A number read from bytes: what stands in it, how many bytes it has; or which sentinel. -/
def dec (i u : Nat) : List Nat → Nat × Nat × Option Nat
  | [] => (0, 0, some 2)
  | c :: r => if (0 < i ∧ c = 0) ∨ (i = 9 ∧ 1 < c) then (0, 0, some 3) else if c < 128 then (u + c % 128 * 2 ^ (7 * i), i + 1, none) else dec (i + 1) (u + c % 128 * 2 ^ (7 * i)) r
/-- The next number, the place behind it, the error. -/
def nxt (L : List Nat) (at_ : Nat) : Int × Nat × ErrT := match dec 0 0 (L.drop at_) with
  | (u, k, none) => (unzig u, at_ + k, .nil)
  | (_, _, some s) => (0, 0, .sent s)

set_option maxRecDepth 100000 in
set_option maxHeartbeats 4000000 in
theorem next_c (A : Nat → Addr) (b : Nat) (v : Value) (L : List Nat) (at_ : Nat) (e : ErrT) (w : World) (hs : SentAt w A) (h : RdAt w A b v L at_ e) :
    Calls Tryd.prog 67 #[.pointer (some ⟨b, 0, none⟩)] w fun ev w' => ev = .returned (.tuple #[.int .i64 (nxt L at_).1, .int .i64 (nxt L at_).2.1, (nxt L at_).2.2.val A]) ∧ Below w.heap.size w w' := by
  have c0 := cell_of h.blk 0
  have c1 := cell_of h.blk 1
  simp only [List.getElem?_toArray, List.getElem?_cons_zero, List.getElem?_cons_succ] at c0 c1
  have HH := Lib.hid h
  have hlt := h.lt
  have hle := h.le
  have hbig := h.big
  obtain ⟨_, ad, cap, rfl, hc⟩ := h.row
  clear h
  go_enter Tryd.func67, Tryd.ntmps67
  go_wp2_with fail
  refine wp_region_lexA ⟨[], []⟩ (fun x => Below w.heap.size w x) (by kernel_rfl) (by kernel_rfl) (Below.refl _ _).drew ?_
  intro S hto hof hne
  have x0 : ∀ z : Wd S, z.w.cell? ⟨b, 0, none⟩ = some (.slice ad L.length cap) := fun z => ((hto z).cell (p := ⟨b, 0, none⟩) hlt).trans c0
  have x1 : ∀ z : Wd S, z.w.cell? ⟨b, 1, none⟩ = some (.int .i64 at_) := fun z => ((hto z).cell (p := ⟨b, 1, none⟩) hlt).trans c1
  have Hof := Lib.hid hof
  clear hto hof
  have hcapL := HH.out.cap _ _ _ rfl
  have HC := Lib.hid hc
  have HS := Lib.hid hs
  have C1 := Lib.hid c1
  have HBYT := Lib.hid HH.out.byt
  clear hc hs c0 c1
  cases ad with
  | none =>
    have hL0 : L.length = 0 := by
      rcases Nat.eq_zero_or_pos L.length with h | h
      · exact h
      · obtain ⟨g, off, h, _⟩ := HC.out h
        cases h
    obtain rfl : L = [] := List.eq_nil_of_length_eq_zero hL0
    obtain rfl : at_ = 0 := by simpa using hle
    simp only [List.length_nil, Int.natCast_zero] at x0 x1
    refine lexW_light 11 (by kernel_rfl) ?_
    simp only [List.take_succ_cons, List.take_zero, List.drop_succ_cons, List.drop_zero]
    repeat (first | go_big_quiet_skip | (go_big_quiet_want; go_big_quiet_op; go_big_quiet_on))
    refine wpQuiet_nil ?_
    refine lexW_done ?_
    clear x0 x1
    go_wp2_with fail
    go_loopw [5, 18] (fun s5 s18 wr => s5 = .int .u64 0 ∧ s18 = .int .i64 0 ∧ Below w.heap.size w wr) (fun _ _ _ => 0)
    case atStart => exact ⟨rfl, rfl, (Below.refl _ _).drew⟩
    case round =>
      obtain ⟨rfl, rfl, hB⟩ := hrel
      have hg2 := (HS.out.below hB).glob 2 (by omega)
      simp only [gnum] at hg2
      have hgl := World.block_lt_of_cell? _ _ hg2
      go_wp2_with fail
      refine wp_region_lexA ⟨[], []⟩ (fun x => Below wr.heap.size wr x) (by kernel_rfl) (by kernel_rfl) (Below.refl _ _).drew ?_
      intro S hto hof hne
      have y3 := fun z : Wd S => ((hto z).cell hgl).trans hg2
      have Hof := Lib.hid hof
      clear hto hof hg2 hgl
      refine lexW_light 4 (by kernel_rfl) ?_
      simp only [List.take_succ_cons, List.take_zero, List.drop_succ_cons, List.drop_zero]
      repeat (first | go_big_quiet_skip | (go_big_quiet_want; go_big_quiet_op; go_big_quiet_on))
      refine wpQuiet_nil ?_
      refine lexW_done ?_
      go_wp2_with fail
      go_ret3
      exact ⟨rfl, hB.drew⟩
  | some ad =>
    have hpa : at_ < L.length → ∃ g off, (if cap = at_ then some ad else some (ad.add at_)) = some ⟨g, off, none⟩ ∧ g < w.heap.size ∧ ∀ j u, (byteV L)[at_ + j]? = some u → w.cell? ⟨g, off + j, none⟩ = some u := fun h => by
      obtain ⟨g, off, ha, hg, hcc⟩ := HC.out (by omega)
      obtain rfl := Option.some.inj ha
      rw [if_neg (by omega), Addr.add_lit]
      exact ⟨g, off + at_, rfl, hg, fun j u hj => by rw [Nat.add_assoc]; exact hcc _ u hj⟩
    have HPA := Lib.hid hpa
    clear hpa
    refine lexW_light 9 (by kernel_rfl) ?_
    simp only [List.take_succ_cons, List.take_zero, List.drop_succ_cons, List.drop_zero]
    repeat (first | go_big_quiet_skip | (go_big_quiet_want; go_big_quiet_op; go_big_quiet_on))
    refine wpQuiet_nil ?_
    generalize (if cap = at_ then some ad else some (ad.add at_)) = pa at *
    refine lexW_light 2 (by kernel_rfl) ?_
    simp only [List.take_succ_cons, List.take_zero, List.drop_succ_cons, List.drop_zero]
    repeat (first | go_big_quiet_skip | (go_big_quiet_want; go_big_quiet_op; go_big_quiet_on))
    refine wpQuiet_nil ?_
    refine lexW_done ?_
    clear x0 x1
    go_wp2_with fail
    go_loopw [5, 18] (fun s5 s18 wr => ∃ (i u : Nat), s18 = .int .i64 i ∧ s5 = .int .u64 u ∧ i ≤ L.length - at_ ∧ i ≤ 9 ∧ u < 2 ^ (7 * i) ∧ dec i u ((L.drop at_).drop i) = dec 0 0 (L.drop at_) ∧ Below w.heap.size w wr) (fun _ s18 _ => L.length - at_ - (intOf s18).toNat)
    case atStart => exact ⟨0, 0, rfl, rfl, by omega, by omega, by simp, rfl, (Below.refl _ _).drew⟩
    case round =>
      obtain ⟨i, u, rfl, rfl, hil, hi9, hu, hdec, hB⟩ := hrel
      have HD := Lib.hid hdec
      have HU := Lib.hid hu
      clear hdec hu
      by_cases hlt2 : i < L.length - at_
      · obtain ⟨g, off, rfl, hg, hcc⟩ := HPA.out (by omega)
        have hk : (L.drop at_)[i]? = some (L[at_ + i]'(by omega)) := by rw [List.getElem?_drop]; exact List.getElem?_eq_getElem _
        have hce := (hB.cell (p := ⟨g, off + i, none⟩) hg).trans (hcc i (.int .u8 (L[at_ + i]'(by omega) : Nat)) (by simp only [byteV, List.getElem?_map, List.getElem?_eq_getElem (show at_ + i < L.length by omega)]; rfl))
        have hc256 := HBYT.out _ (List.getElem_mem (show at_ + i < L.length by omega))
        have HK := Lib.hid hk
        clear hk hcc
        generalize (L[at_ + i]'(by omega)) = c at *
        have hdd : (L.drop at_).drop i = c :: (L.drop at_).drop (i + 1) := by
          have h1 := List.drop_eq_getElem_cons (l := L.drop at_) (i := i) (by rw [List.length_drop]; omega)
          have h2 := HK.out
          rw [List.getElem?_eq_getElem (by rw [List.length_drop]; omega)] at h2
          rw [h1, Option.some.inj h2]
        have HDD := Lib.hid hdd
        clear hdd
        by_cases hi0 : 0 < i
        · by_cases hc0 : c = 0
          · subst hc0
            simp only [Int.natCast_zero] at hce
            have hdn : dec i u (0 :: (L.drop at_).drop (i + 1)) = (0, 0, some 3) := if_pos (by omega)
            have HDN := Lib.hid hdn
            have hg3 := (HS.out.below hB).glob 3 (by omega)
            simp only [gnum] at hg3
            have hgl := World.block_lt_of_cell? _ _ hg3
            clear hdn
            go_wp2_with fail
            refine wp_region_lexA ⟨[], []⟩ (fun x => Below wr.heap.size wr x) (by kernel_rfl) (by kernel_rfl) (Below.refl _ _).drew ?_
            intro S hto hof hne
            have y3 := fun z : Wd S => ((hto z).cell hgl).trans hg3
            have Hof := Lib.hid hof
            clear hto hof hg3 hgl
            refine lexW_light 4 (by kernel_rfl) ?_
            simp only [List.take_succ_cons, List.take_zero, List.drop_succ_cons, List.drop_zero]
            repeat (first | go_big_quiet_skip | (go_big_quiet_want; go_big_quiet_op; go_big_quiet_on))
            refine wpQuiet_nil ?_
            refine lexW_done ?_
            go_wp2_with fail
            go_ret3
            refine ⟨?_, hB.drew⟩
            have hd := HD.out
            rw [HDD.out, HDN.out] at hd
            simp only [nxt, ← hd]
            rfl
          · have gB : ((c : Int) == 0) = false := by simpa using hc0
            by_cases h9 : i = 9
            · by_cases hc1 : 1 < c
              · have gC : ((i : Int) == 9) = true := by simp; omega
                have gD : decide ((c : Int) > 1) = true := by simp; omega
                have HI9 := Lib.hid h9
                clear h9
                have hdn : dec i u (c :: (L.drop at_).drop (i + 1)) = (0, 0, some 3) := if_pos (by have := HI9.out; omega)
                have HDN := Lib.hid hdn
                have hg3 := (HS.out.below hB).glob 3 (by omega)
                simp only [gnum] at hg3
                have hgl := World.block_lt_of_cell? _ _ hg3
                clear hdn
                go_wp2_with fail
                refine wp_region_lexA ⟨[], []⟩ (fun x => Below wr.heap.size wr x) (by kernel_rfl) (by kernel_rfl) (Below.refl _ _).drew ?_
                intro S hto hof hne
                have y3 := fun z : Wd S => ((hto z).cell hgl).trans hg3
                have Hof := Lib.hid hof
                clear hto hof hg3 hgl
                refine lexW_light 4 (by kernel_rfl) ?_
                simp only [List.take_succ_cons, List.take_zero, List.drop_succ_cons, List.drop_zero]
                repeat (first | go_big_quiet_skip | (go_big_quiet_want; go_big_quiet_op; go_big_quiet_on))
                refine wpQuiet_nil ?_
                refine lexW_done ?_
                go_wp2_with fail
                go_ret3
                refine ⟨?_, hB.drew⟩
                have hd := HD.out
                rw [HDD.out, HDN.out] at hd
                simp only [nxt, ← hd]
                rfl
              · have gC : ((i : Int) == 9) = true := by simp; omega
                have gD : decide ((c : Int) > 1) = false := by simp; omega
                have HI9 := Lib.hid h9
                clear h9
                obtain ⟨U, hU⟩ : ∃ U : Nat, U = u + c % 128 * 2 ^ (7 * i) := ⟨_, rfl⟩
                have h9' : i = 9 := HI9.out
                have h128 : c < 128 := by omega
                have HSTEP := Lib.hid ((or_step hc256 hi9 HU.out (by omega)).trans (by rw [← hU] : ((u + c % 128 * 2 ^ (7 * i) : Nat) : Int) = (U : Int)))
                have HDN := Lib.hid (show dec i u (c :: (L.drop at_).drop (i + 1)) = if c < 128 then (U, i + 1, none) else dec (i + 1) U ((L.drop at_).drop (i + 1)) by rw [hU]; exact if_neg (by omega))
                have hU64 : U < 18446744073709551616 := by rw [hU]; exact step_lt64 hi9 HU.out (by omega)
                clear hU h9'
                have hstep := HSTEP.out
                have x1 : wr.cell? ⟨b, 1, none⟩ = some (.int .i64 at_) := (hB.cell (p := ⟨b, 1, none⟩) hlt).trans C1.out
                go_wp2_with fail
                clear hstep
                refine wp_region_lexA ⟨[], []⟩ (fun x => Below wr.heap.size wr x) (by kernel_rfl) (by kernel_rfl) (Below.refl _ _).drew ?_
                intro S hto hof hne
                have y1 : ∀ z : Wd S, z.w.cell? ⟨b, 1, none⟩ = some (.int .i64 at_) := fun z => ((hto z).cell (p := ⟨b, 1, none⟩) (Nat.lt_of_lt_of_le hlt hB.size)).trans x1
                have Hof := Lib.hid hof
                have hxz := unzig_bits hU64
                clear hto hof x1
                refine lexW_light 18 (by kernel_rfl) ?_
                simp only [List.take_succ_cons, List.take_zero, List.drop_succ_cons, List.drop_zero]
                repeat (first | go_big_quiet_skip | (go_big_quiet_want; go_big_quiet_op; go_big_quiet_on))
                refine wpQuiet_nil ?_
                refine lexW_done ?_
                go_wp2_with fail
                go_ret3
                refine ⟨?_, hB.drew⟩
                have hd := HD.out
                rw [HDD.out, HDN.out, if_pos h128] at hd
                simp only [nxt, ← hd]
                rw [show ((at_ + (i + 1) : Nat) : Int) = (at_ : Int) + i + 1 by omega]
                rfl
            · have gC : ((i : Int) == 9) = false := by simp; omega
              obtain ⟨U, hU⟩ : ∃ U : Nat, U = u + c % 128 * 2 ^ (7 * i) := ⟨_, rfl⟩
              have HSTEP := Lib.hid ((or_step hc256 hi9 HU.out (by omega)).trans (by rw [← hU] : ((u + c % 128 * 2 ^ (7 * i) : Nat) : Int) = (U : Int)))
              have HDN := Lib.hid (show dec i u (c :: (L.drop at_).drop (i + 1)) = if c < 128 then (U, i + 1, none) else dec (i + 1) U ((L.drop at_).drop (i + 1)) by rw [hU]; exact if_neg (by omega))
              have hU64 : U < 18446744073709551616 := by rw [hU]; exact step_lt64 hi9 HU.out (by omega)
              have HUE := Lib.hid hU
              clear hU
              by_cases h128 : c < 128
              · have hstep := HSTEP.out
                have x1 : wr.cell? ⟨b, 1, none⟩ = some (.int .i64 at_) := (hB.cell (p := ⟨b, 1, none⟩) hlt).trans C1.out
                go_wp2_with fail
                clear hstep
                refine wp_region_lexA ⟨[], []⟩ (fun x => Below wr.heap.size wr x) (by kernel_rfl) (by kernel_rfl) (Below.refl _ _).drew ?_
                intro S hto hof hne
                have y1 : ∀ z : Wd S, z.w.cell? ⟨b, 1, none⟩ = some (.int .i64 at_) := fun z => ((hto z).cell (p := ⟨b, 1, none⟩) (Nat.lt_of_lt_of_le hlt hB.size)).trans x1
                have Hof := Lib.hid hof
                have hxz := unzig_bits hU64
                clear hto hof x1
                refine lexW_light 18 (by kernel_rfl) ?_
                simp only [List.take_succ_cons, List.take_zero, List.drop_succ_cons, List.drop_zero]
                repeat (first | go_big_quiet_skip | (go_big_quiet_want; go_big_quiet_op; go_big_quiet_on))
                refine wpQuiet_nil ?_
                refine lexW_done ?_
                go_wp2_with fail
                go_ret3
                refine ⟨?_, hB.drew⟩
                have hd := HD.out
                rw [HDD.out, HDN.out, if_pos h128] at hd
                simp only [nxt, ← hd]
                rw [show ((at_ + (i + 1) : Nat) : Int) = (at_ : Int) + i + 1 by omega]
                rfl
              · have hstep := HSTEP.out
                go_wp2_with fail
                clear hstep
                go_roundw
                case measure => simp [intOf]; omega
                case rel =>
                  have hd := HD.out
                  rw [HDD.out, HDN.out, if_neg h128] at hd
                  refine ⟨i + 1, U, by go_num, rfl, by omega, by omega, ?_, hd, hB⟩
                  rw [HUE.out]
                  exact step_lt (by omega) HU.out
        · have gC : ((i : Int) == 9) = false := by simp; omega
          obtain ⟨U, hU⟩ : ∃ U : Nat, U = u + c % 128 * 2 ^ (7 * i) := ⟨_, rfl⟩
          have HSTEP := Lib.hid ((or_step hc256 hi9 HU.out (by omega)).trans (by rw [← hU] : ((u + c % 128 * 2 ^ (7 * i) : Nat) : Int) = (U : Int)))
          have HDN := Lib.hid (show dec i u (c :: (L.drop at_).drop (i + 1)) = if c < 128 then (U, i + 1, none) else dec (i + 1) U ((L.drop at_).drop (i + 1)) by rw [hU]; exact if_neg (by omega))
          have hU64 : U < 18446744073709551616 := by rw [hU]; exact step_lt64 hi9 HU.out (by omega)
          have HUE := Lib.hid hU
          clear hU
          by_cases h128 : c < 128
          · have hstep := HSTEP.out
            have x1 : wr.cell? ⟨b, 1, none⟩ = some (.int .i64 at_) := (hB.cell (p := ⟨b, 1, none⟩) hlt).trans C1.out
            go_wp2_with fail
            clear hstep
            refine wp_region_lexA ⟨[], []⟩ (fun x => Below wr.heap.size wr x) (by kernel_rfl) (by kernel_rfl) (Below.refl _ _).drew ?_
            intro S hto hof hne
            have y1 : ∀ z : Wd S, z.w.cell? ⟨b, 1, none⟩ = some (.int .i64 at_) := fun z => ((hto z).cell (p := ⟨b, 1, none⟩) (Nat.lt_of_lt_of_le hlt hB.size)).trans x1
            have Hof := Lib.hid hof
            have hxz := unzig_bits hU64
            clear hto hof x1
            refine lexW_light 18 (by kernel_rfl) ?_
            simp only [List.take_succ_cons, List.take_zero, List.drop_succ_cons, List.drop_zero]
            repeat (first | go_big_quiet_skip | (go_big_quiet_want; go_big_quiet_op; go_big_quiet_on))
            refine wpQuiet_nil ?_
            refine lexW_done ?_
            go_wp2_with fail
            go_ret3
            refine ⟨?_, hB.drew⟩
            have hd := HD.out
            rw [HDD.out, HDN.out, if_pos h128] at hd
            simp only [nxt, ← hd]
            rw [show ((at_ + (i + 1) : Nat) : Int) = (at_ : Int) + i + 1 by omega]
            rfl
          · have hstep := HSTEP.out
            go_wp2_with fail
            clear hstep
            go_roundw
            case measure => simp [intOf]; omega
            case rel =>
              have hd := HD.out
              rw [HDD.out, HDN.out, if_neg h128] at hd
              refine ⟨i + 1, U, by go_num, rfl, by omega, by omega, ?_, hd, hB⟩
              rw [HUE.out]
              exact step_lt (by omega) HU.out
      · have hg2 := (HS.out.below hB).glob 2 (by omega)
        simp only [gnum] at hg2
        have hgl := World.block_lt_of_cell? _ _ hg2
        go_wp2_with fail
        refine wp_region_lexA ⟨[], []⟩ (fun x => Below wr.heap.size wr x) (by kernel_rfl) (by kernel_rfl) (Below.refl _ _).drew ?_
        intro S hto hof hne
        have y3 := fun z : Wd S => ((hto z).cell hgl).trans hg2
        have Hof := Lib.hid hof
        clear hto hof hg2 hgl
        refine lexW_light 4 (by kernel_rfl) ?_
        simp only [List.take_succ_cons, List.take_zero, List.drop_succ_cons, List.drop_zero]
        repeat (first | go_big_quiet_skip | (go_big_quiet_want; go_big_quiet_op; go_big_quiet_on))
        refine wpQuiet_nil ?_
        refine lexW_done ?_
        go_wp2_with fail
        go_ret3
        refine ⟨?_, hB.drew⟩
        have hd := HD.out
        rw [List.drop_eq_nil_of_le (by rw [List.length_drop]; omega)] at hd
        simp only [nxt, ← hd, dec]
        rfl

end Go.Proofs.YtpljdbcifaeblaaDoor
