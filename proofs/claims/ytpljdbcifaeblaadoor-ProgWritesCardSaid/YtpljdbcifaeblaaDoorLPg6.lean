/- ProgWrites: true; no condition but what a start gives. -/
import Derived.Test.YtpljdbcifaeblaaDoorLPg1
import Derived.Test.YtpljdbcifaeblaaDoorPg11
import Derived.Test.YtpljdbcifaeblaaDoorOpArg
import Derived.Deep.Cut
import Derived.Deep.CutRange
namespace Go.Proofs.YtpljdbcifaeblaaDoor
open Go.RowKit Go.Extern.Stop Go.Stop Go.Extern

theorem winRow.capnO {w : World} {base size n : Nat} {e : TypeId} {a : Option Addr} {c : Nat} {xs : List Value} (h : winRow w base e size (.slice a n c) n xs) : n ≤ c := by
  rcases h.2 with ⟨h1, _⟩ | ⟨g, off, cap, cur, h1, _, _, hnc, _⟩
  · simp only [Value.slice.injEq] at h1
    omega
  · simp only [Value.slice.injEq] at h1
    omega
set_option maxRecDepth 100000 in
set_option maxHeartbeats 16000000 in
theorem writes (A : Nat → Addr) (p : Option Addr) (n c : Nat) (W : Int) (w : World) (hs : SentAt w A) (N : Nat) (hN : N = if 80 < n then 80 else n) (hnc : n ≤ c) (l : List OpV) (hl : l.length = N) (hsl : slc w 4 (.slice p N c) N (flatP l)) (hfit : ∀ o ∈ l, o.fit) :
    Calls Tryd.prog 4 #[.slice p n c, .int .i64 W] w (TruePost w) := by
  have HS := Lib.hid hs
  have HSL := Lib.hid hsl
  have HLL := Lib.hid hl
  have HFT := Lib.hid hfit
  clear hs hsl hl hfit
  have hN80 : N ≤ 80 := by rw [hN]; split <;> omega
  have HN80 := Lib.hid hN80
  go_enter Tryd.func4, Tryd.ntmps4
  go_upto_if 13 with fail
  go_cut [0] from 11 to 15 (fun s0 wx => s0 = .slice p N c ∧ w = wx)
  case first =>
    by_cases hn : 80 < n
    · have g0 : decide ((n : Int) > 80) = true := by simp; omega
      have g1 : 80 ≤ c := by omega
      have HNE := Lib.hid (show N = 80 by rw [hN, if_pos hn])
      clear hN hN80
      go_wp2_with fail
      go_meet
      case rel => exact ⟨by rw [HNE.out], rfl⟩
    · have g0 : decide ((n : Int) > 80) = false := by simp; omega
      have HNE := Lib.hid (show N = n by rw [hN, if_neg hn])
      clear hN hN80
      go_wp2_with fail
      go_meet
      case rel => exact ⟨by rw [HNE.out], rfl⟩
  case rest =>
    obtain ⟨rfl, rfl⟩ := hcut
    clear hN hnc
    have hX := heap_alloc_new w (.cells #[.int .i64 (-7), .int .i64 0, .int .u32 0, .int .u32 0] 29)
    have hb0 : Below w.heap.size w (w.alloc (.cells #[.int .i64 (-7), .int .i64 0, .int .u32 0, .int .u32 0] 29)) := (Below.refl _ _).alloc (Nat.le_refl _) _
    have HX0 := Lib.hid hX
    have HB0 := Lib.hid hb0
    clear hX hb0
    go_wp2_with fail
    obtain ⟨hK, hhK⟩ : ∃ h, h = w.heap.size := ⟨_, rfl⟩
    rw [← hhK] at HX0 ⊢
    generalize w.alloc (.cells #[.int .i64 (-7), .int .i64 0, .int .u32 0, .int .u32 0] 29) = w0 at *
    clear hhK
    refine (roomyO_c _ l ⟨-7, 0, 0, 0⟩ w0 (by rw [HLL.out]; exact HSL.out.below HB0.out) (by have := HLL.out; have := HN80.out; omega)).mono ?_
    rintro ev w1 ⟨g, cap, rfl, hrow, hb1⟩
    have HB1 := Lib.hid (HB0.out.trans (hb1.mono HB0.out.size))
    have HX1 := Lib.hid ((hb1.block hK (Array.getElem?_eq_some_iff.1 HX0.out).1).trans HX0.out)
    have HROW := Lib.hid hrow
    have hcap : N ≤ cap := by have := hrow.capnO; have := HLL.out; omega
    rw [HLL.out]
    clear hb1 hrow HX0 HB0
    have gs : decide ((N : Int) ≥ 0) = true := by simp
    go_wp2_with fail
    have hpre : slc w1 4 (.slice (some ⟨g, 0, none⟩) N cap) l.length (flatP l) := by
      obtain ⟨g', off', cap', he, _, _, hg, hc⟩ := HROW.out.form (by omega)
      simp only [Value.slice.injEq, Option.some.injEq, Addr.mk.injEq] at he
      obtain ⟨⟨rfl, rfl, _⟩, _, rfl⟩ := he
      exact ⟨flatP_length l, _, cap, by rw [HLL.out], fun _ => ⟨g, 0, rfl, hg, fun j u hj => hc j u (by rw [flatP_append, List.getElem?_append_left (List.getElem?_eq_some_iff.1 hj).1]; exact hj)⟩⟩
    have HPRE := Lib.hid hpre
    clear hpre
    refine (put_c A _ l W w1 (HS.out.below HB1.out) HPRE.out HFT.out (by have := HLL.out; have := HN80.out; omega)).mono ?_
    rintro ev w2 ⟨u2, rfl, hu2, hb2⟩
    have HU2 := Lib.hid hu2
    have HB2 := Lib.hid (HB1.out.trans (hb2.mono HB1.out.size))
    have HX2 := Lib.hid ((hb2.block hK (Array.getElem?_eq_some_iff.1 HX1.out).1).trans HX1.out)
    have hrow2 := HROW.out.below hb2
    rw [HLL.out] at hrow2
    have HROW2 := Lib.hid hrow2
    have HSL2 := Lib.hid (HSL.out.below HB2.out)
    clear hu2 hb2 hrow2 HB1 HX1 HROW HPRE gs hcap
    generalize hPE : putE W l = PE at *
    have HPE := Lib.hid hPE
    clear hPE
    go_wp2_with fail
    go_loopw [9] (fun s9 wr => ∃ i : Nat, i ≤ N ∧ s9 = .int .i64 i ∧ Below w2.heap.size w2 wr) (fun s9 _ => N - (intOf s9).toNat)
    case atStart => exact ⟨0, by omega, rfl, Below.refl _ _⟩
    case round =>
      obtain ⟨i, hi, rfl, hB⟩ := hrel
      by_cases hil : i < N
      · have g1 : decide (i < N) = true := by simp; omega
        obtain ⟨_, ap, cp, hse, hcc⟩ := HSL2.out
        simp only [Value.slice.injEq] at hse
        obtain ⟨hp1, _, hp2⟩ := hse
        subst hp1 hp2
        obtain ⟨g1, o1, rfl, hg1, hc1⟩ := hcc (by omega)
        obtain ⟨e, he⟩ : ∃ e, l[i]? = some e := ⟨_, List.getElem?_eq_getElem (by rw [HLL.out]; exact hil)⟩
        have e0 := (hB.cell (p := ⟨g1, o1 + (i * 4 + 0), none⟩) hg1).trans (hc1 _ _ (flatP_at he (c := 0) rfl))
        have e1 := (hB.cell (p := ⟨g1, o1 + (i * 4 + 1), none⟩) hg1).trans (hc1 _ _ (flatP_at he (c := 1) rfl))
        have e2 := (hB.cell (p := ⟨g1, o1 + (i * 4 + 2), none⟩) hg1).trans (hc1 _ _ (flatP_at he (c := 2) rfl))
        have e3 := (hB.cell (p := ⟨g1, o1 + (i * 4 + 3), none⟩) hg1).trans (hc1 _ _ (flatP_at he (c := 3) rfl))
        obtain ⟨kd, ad, va, ol⟩ := e
        simp only [Nat.add_zero, ← Nat.add_assoc] at e0 e1 e2 e3
        have b1 := World.block_lt_of_cell? _ _ e0
        simp only at b1
        have HB := Lib.hid hB
        clear hcc hc1 hg1 hB he
        go_upto_region 9 with fail
        refine wp_region_lexA ⟨[], []⟩ (fun x => Below wr.heap.size wr x) (by kernel_rfl) (by kernel_rfl) (Below.refl _ _).drew ?_
        intro S hto hof hne
        have x0 : ∀ z : Wd S, z.w.cell? ⟨g1, o1 + i * 4, none⟩ = some (.int .i64 kd) := fun z => ((hto z).cell (p := ⟨g1, o1 + i * 4, none⟩) b1).trans e0
        have x1 : ∀ z : Wd S, z.w.cell? ⟨g1, o1 + i * 4 + 1, none⟩ = some (.int .i64 ad) := fun z => ((hto z).cell (p := ⟨g1, o1 + i * 4 + 1, none⟩) b1).trans e1
        have x2 : ∀ z : Wd S, z.w.cell? ⟨g1, o1 + i * 4 + 2, none⟩ = some (.int .u32 va) := fun z => ((hto z).cell (p := ⟨g1, o1 + i * 4 + 2, none⟩) b1).trans e2
        have x3 : ∀ z : Wd S, z.w.cell? ⟨g1, o1 + i * 4 + 3, none⟩ = some (.int .u32 ol) := fun z => ((hto z).cell (p := ⟨g1, o1 + i * 4 + 3, none⟩) b1).trans e3
        have Hof := Lib.hid hof
        clear hto hof e0 e1 e2 e3
        refine lexW_light 5 (by kernel_rfl) ?_
        simp only [List.take_succ_cons, List.take_zero, List.drop_succ_cons, List.drop_zero]
        repeat (first | go_big_quiet_skip | (go_big_quiet_want; go_big_quiet_op; go_big_quiet_on))
        refine wpQuiet_nil ?_
        refine lexW_heavy (by kernel_rfl) ?_
        go_wp2_with fail
        refine (right_c ⟨kd, ad, va, ol⟩ W _).mono ?_
        rintro ev w3 ⟨rfl, hb3⟩
        have HC3 := Lib.hid ((Below.refl wr.heap.size wr).drew.trans hb3)
        clear hb3
        go_wp2_with fail
        refine lexQ_more (Hof.out _ HC3.out) ?_
        refine lexW_light 5 (by kernel_rfl) ?_
        simp only [List.take_succ_cons, List.take_zero, List.drop_succ_cons, List.drop_zero]
        repeat (first | go_big_quiet_skip | (go_big_quiet_want; go_big_quiet_op; go_big_quiet_on))
        refine wpQuiet_nil ?_
        refine lexW_heavy (by kernel_rfl) ?_
        go_wp2_with fail
        refine (rightop_c ⟨kd, ad, va, ol⟩ W _).mono ?_
        rintro ev w4 ⟨rfl, hb4⟩
        have HC4 := Lib.hid (HC3.out.trans (hb4.mono HC3.out.size))
        clear hb4
        generalize rightB ⟨kd, ad, va, ol⟩ W = rb at *
        have gb : (rb != rb) = false := by simp
        go_wp2_with fail
        refine lexQ_more (Hof.out _ HC4.out) ?_
        refine lexW_light 1 (by kernel_rfl) ?_
        simp only [List.take_succ_cons, List.take_zero, List.drop_succ_cons, List.drop_zero]
        repeat (first | go_big_quiet_skip | (go_big_quiet_want; go_big_quiet_op; go_big_quiet_on))
        refine wpQuiet_nil ?_
        refine lexW_done ?_
        clear x0 x1 x2 x3
        go_wp2_with fail
        go_roundw
        case rel => exact ⟨i + 1, by omega, by go_num, HB.out.trans (HC4.out.mono HB.out.size)⟩
        case measure => simp [intOf] <;> omega
      · have g1 : decide (i < N) = false := by simp; omega
        have HW := Lib.hid (HB2.out.trans (hB.mono HB2.out.size))
        have HXR := Lib.hid ((hB.block hK (Array.getElem?_eq_some_iff.1 HX2.out).1).trans HX2.out)
        have HROWR := Lib.hid (HROW2.out.below hB)
        have HSLR := Lib.hid (HSL2.out.below hB)
        have hub : (if PE.isNil then winRow wr w1.heap.size 5 1 u2 (encP l).length (byteV (encP l)) else u2 = .slice none 0 0) := by
          have := HU2.out
          cases hP : PE.isNil with
          | true => rw [hP] at this; exact (show winRow w2 w1.heap.size 5 1 u2 (encP l).length (byteV (encP l)) from this).below hB
          | false => rw [hP] at this; exact this
        have HUB := Lib.hid hub
        have q0 := cell_of HXR.out 0
        have q1 := cell_of HXR.out 1
        have q2 := cell_of HXR.out 2
        have q3 := cell_of HXR.out 3
        simp only [List.getElem?_toArray, List.getElem?_cons_zero, List.getElem?_cons_succ] at q0 q1 q2 q3
        have hlq := (Array.getElem?_eq_some_iff.1 HXR.out).1
        clear hB hub
        go_wp2_with fail
        refine (intactO_c (.slice (some ⟨g, 0, none⟩) (N + 80) cap) (.slice p N c) l ⟨-7, 0, 0, 0⟩ w0.heap.size wr (by rw [HLL.out]; exact HROWR.out) (by rw [HLL.out]; exact HSLR.out) (by have := HLL.out; omega)).mono ?_
        rintro ev w3 ⟨rfl, hb3⟩
        have HW3 := Lib.hid (HW.out.trans (hb3.mono HW.out.size))
        have HSL3 := Lib.hid (HSLR.out.below hb3)
        have hub : (if PE.isNil then winRow w3 w1.heap.size 5 1 u2 (encP l).length (byteV (encP l)) else u2 = .slice none 0 0) := by
          have := HUB.out
          cases hP : PE.isNil with
          | true => rw [hP] at this; exact (show winRow wr w1.heap.size 5 1 u2 (encP l).length (byteV (encP l)) from this).below hb3
          | false => rw [hP] at this; exact this
        have HU3 := Lib.hid hub
        clear hb3 hub q0 q1 q2 q3 hlq HROWR HSLR HUB
        go_wp2_with fail
        refine (rightn_c _ l W w3 (by rw [HLL.out]; exact HSL3.out) (by have := HLL.out; omega)).mono ?_
        rintro ev w4 ⟨rfl, hb4⟩
        have HW4 := Lib.hid (HW3.out.trans (hb4.mono HW3.out.size))
        have HSL4 := Lib.hid (HSL3.out.below hb4)
        have hub : (if PE.isNil then winRow w4 w1.heap.size 5 1 u2 (encP l).length (byteV (encP l)) else u2 = .slice none 0 0) := by
          have := HU3.out
          cases hP : PE.isNil with
          | true => rw [hP] at this; exact (show winRow w3 w1.heap.size 5 1 u2 (encP l).length (byteV (encP l)) from this).below hb4
          | false => rw [hP] at this; exact this
        have hBR := badE_right W l 0
        have hle := rightN_le W l
        rw [HLL.out] at hBR hle
        rw [Nat.zero_add] at hBR
        generalize rightN W l = R at *
        have HBR := Lib.hid hBR
        clear hb4 hBR HU3 hi
        by_cases h64 : 64 < N
        · have gg : decide ((N : Int) > 64) = true := by simp; omega
          obtain rfl : PE = .wrap pgT N (.sent 1) := by rw [← HPE.out]; unfold putE; rw [if_pos (by rw [HLL.out]; exact h64), HLL.out]
          have hub : u2 = .slice none 0 0 := hub
          subst hub
          rw [show (ErrT.wrap pgT N (.sent 1)).val A = .iface 80 (.agg #[.string pgT, .int .i64 N, .iface 138 (.pointer (some (A 1)))]) from rfl]
          go_wp2_with fail
          change Calls Tryd.prog _ #[(ErrT.wrap pgT N (.sent 1)).val A, .int .i64 (2 : Int), .string pgT, .int .i64 N] _ _
          refine (is_c A (.wrap pgT N (.sent 1)) 2 pgT N w4 (HS.out.below HW4.out) ⟨rfl, show (1 : Nat) < 10 by omega⟩ (by omega) (by omega)).mono ?_
          rintro ev w5 ⟨rfl, hb5⟩
          rw [show isK (.wrap pgT N (.sent 1)) 2 pgT N = true by simp [isK, ErrT.code]]
          have HW5 := Lib.hid (HW4.out.trans (hb5.mono HW4.out.size))
          clear hb5
          go_wp2_with fail
          refine (progRuns A _ (HS.out.below HW5.out)).mono ?_
          rintro ev wz ⟨rfl, hbz⟩
          go_wp2_with fail
          go_ret
          exact ⟨rfl, HW5.out.trans (hbz.mono HW5.out.size)⟩
        · have gg : decide ((N : Int) > 64) = false := by simp; omega
          have hpu : putE W l = badE W l 0 := by unfold putE; rw [if_neg (by rw [HLL.out]; exact h64)]
          by_cases hRN : R < N
          · have g2 : decide (R < N) = true := by simp; omega
            obtain rfl : PE = .wrap pgT R (.sent 0) := by rw [← HPE.out, hpu, HBR.out, if_pos hRN]
            have hub : u2 = .slice none 0 0 := hub
            subst hub
            clear hpu
            rw [show (ErrT.wrap pgT R (.sent 0)).val A = .iface 80 (.agg #[.string pgT, .int .i64 R, .iface 138 (.pointer (some (A 0)))]) from rfl]
            go_wp2_with fail
            change Calls Tryd.prog _ #[(ErrT.wrap pgT R (.sent 0)).val A, .int .i64 (1 : Int), .string pgT, .int .i64 R] _ _
            refine (is_c A (.wrap pgT R (.sent 0)) 1 pgT R w4 (HS.out.below HW4.out) ⟨rfl, show (0 : Nat) < 10 by omega⟩ (by omega) (by omega)).mono ?_
            rintro ev w5 ⟨rfl, hb5⟩
            rw [show isK (.wrap pgT R (.sent 0)) 1 pgT R = true by simp [isK, ErrT.code]]
            have HW5 := Lib.hid (HW4.out.trans (hb5.mono HW4.out.size))
            clear hb5
            go_wp2_with fail
            refine (progRuns A _ (HS.out.below HW5.out)).mono ?_
            rintro ev wz ⟨rfl, hbz⟩
            go_wp2_with fail
            go_ret
            exact ⟨rfl, HW5.out.trans (hbz.mono HW5.out.size)⟩
          · have g2 : decide (R < N) = false := by simp; omega
            obtain rfl : PE = .nil := by rw [← HPE.out, hpu, HBR.out, if_neg hRN]
            have hub : winRow w4 w1.heap.size 5 1 u2 (encP l).length (byteV (encP l)) := hub
            obtain ⟨a2, c2, rfl⟩ := hub.len
            have HU4 := Lib.hid hub.slc
            have HEL := Lib.hid (encP_len HFT.out (by have := HLL.out; omega))
            rw [show ErrT.nil.val A = .nilIface from rfl]
            clear hub hpu
            go_wp2_with fail
            refine (putops_c _ l W w4 (by rw [HLL.out]; exact HSL4.out) HFT.out (by have := HLL.out; omega)).mono ?_
            rintro ev w5 ⟨u5, rfl, hu5, hb5⟩
            rw [HPE.out] at hu5
            have hu5 : winRow w5 w4.heap.size 5 1 u5 (encP l).length (byteV (encP l)) := hu5
            obtain ⟨a5, c5, rfl⟩ := hu5.len
            have HU5 := Lib.hid hu5.slc
            have HU45 := Lib.hid (HU4.out.below hb5)
            have HW5 := Lib.hid (HW4.out.trans (hb5.mono HW4.out.size))
            clear hu5 hb5
            go_wp2_with fail
            refine (sameG_c (encP l) (encP l) _ _ w5 HU45.out HU5.out (by have := HEL.out; omega) (by have := HEL.out; omega)).mono ?_
            rintro ev w6 ⟨rfl, hb6⟩
            rw [decide_eq_true (rfl : encP l = encP l)]
            have HW6 := Lib.hid (HW5.out.trans (hb6.mono HW5.out.size))
            clear hb6
            go_wp2_with fail
            refine (progRuns A _ (HS.out.below HW6.out)).mono ?_
            rintro ev wz ⟨rfl, hbz⟩
            go_wp2_with fail
            go_ret
            exact ⟨rfl, HW6.out.trans (hbz.mono HW6.out.size)⟩

theorem progWrites (A : Nat → Addr) (v : Value) (n : Nat) (l : List OpV) (W : Int) (w : World) (hs : SentAt w A) (h1 : OpsAt w v n l) (_hw : -9223372036854775808 ≤ W ∧ W ≤ 9223372036854775807) :
    Calls Tryd.prog 4 #[v, .int .i64 W] w (TruePost w) := by
  obtain ⟨_, p, c, rfl, hc⟩ := h1.sl
  have hnc := h1.cap _ _ _ rfl
  have hl := h1.len
  by_cases hn : 80 < n
  · refine writes A p n c W w hs 80 (by rw [if_pos hn]) hnc (l.take 80) (by rw [List.length_take]; omega) ⟨by rw [flatP_length, List.length_take]; omega, p, c, rfl, fun _ => ?_⟩ fun o ho => h1.fit o (List.mem_of_mem_take ho)
    obtain ⟨b, off, h1, h2, h4⟩ := hc (by omega)
    refine ⟨b, off, h1, h2, fun j u hj => h4 j u ?_⟩
    rw [← List.take_append_drop 80 l, flatP_append, List.getElem?_append_left (List.getElem?_eq_some_iff.1 hj).1]
    exact hj
  · exact writes A p n c W w hs n (by rw [if_neg hn]) hnc l hl h1.sl h1.fit

end Go.Proofs.YtpljdbcifaeblaaDoor
