/- PackWrites: true; no condition but what a start gives. -/
import Derived.Test.YthmgccakhhggjaaDoorLPk5
import Derived.Test.YthmgccakhhggjaaDoorByt
import Derived.Test.YthmgccakhhggjaaDoorRPk1
import Derived.Test.YthmgccakhhggjaaDoorRmy
namespace Go.Proofs.YthmgccakhhggjaaDoor
open Go.RowKit Go.Extern.Stop Go.Stop Go.Extern

set_option maxRecDepth 100000 in
set_option maxHeartbeats 16000000 in
theorem packWrites (A : Nat → Addr) (v : Value) (L : List Nat) (vl : Value) (n : Nat) (g : Nat → Int) (w : World) (hs : SentAt w A) (hb : BytesIn w v L) (ha : IntsAt .i64 w vl n g) :
    Calls Tryd.prog 4 #[v, vl] w (TruePost w) := by
  obtain ⟨i0, hi0, hi1⟩ := Option.map_eq_some_iff.1 nInfoB
  simp only [Prod.mk.injEq] at hi1
  obtain ⟨hz0, hz1, hz2⟩ := hi1
  have HI := Lib.hid hi0
  have HZ0 := Lib.hid hz0
  have HZ1 := Lib.hid hz1
  have HZ2 := Lib.hid hz2
  clear hi0 hz0 hz1 hz2
  have HS := Lib.hid hs
  have HBD := Lib.hid fun i (h : i < n) => Go.bounds_i64 (ha.num i h)
  obtain ⟨pa, capa, rfl, hel⟩ := ha.form
  have HEL := Lib.hid hel
  have HLEN := Lib.hid hb.len
  have HV := Lib.hid hb.row
  obtain ⟨_, adv, capv, rfl, _⟩ := hb.row
  clear hs ha hel hb
  go_enter Tryd.func4, Tryd.ntmps4
  go_wp2_with fail
  refine (roomyB_c _ L 11 w HV.out HLEN.out).mono ?_
  rintro ev w1 ⟨gf, capf, rfl, hF, hb1⟩
  have HF := Lib.hid hF
  have HB1 := Lib.hid hb1
  have gcap : L.length ≤ capf := by have := hF.capn'; omega
  have hlen := HLEN.out
  clear hF hb1
  go_wp2_with fail
  refine wp_region_lexA ⟨[], []⟩ (fun x => Below w1.heap.size w1 x) (by kernel_rfl) (by kernel_rfl) (Below.refl _ _).drew ?_
  intro S hto hof hne
  have Hof := Lib.hid hof
  clear hto hof
  refine lexW_light 4 (by kernel_rfl) ?_
  simp only [List.take_succ_cons, List.take_zero, List.drop_succ_cons, List.drop_zero]
  repeat (first | go_big_quiet_skip | (go_big_quiet_want; go_big_quiet_op; go_big_quiet_on))
  refine wpQuiet_nil ?_
  refine lexW_heavy (by kernel_rfl) ?_
  go_wp2_with fail
  refine lexQ_more (Hof.out _ ((Below.refl _ _).drew.alloc (Nat.le_refl _) _)) ?_
  refine lexW_light 1 (by kernel_rfl) ?_
  simp only [List.take_succ_cons, List.take_zero, List.drop_succ_cons, List.drop_zero]
  repeat (first | go_big_quiet_skip | (go_big_quiet_want; go_big_quiet_op; go_big_quiet_on))
  refine wpQuiet_nil ?_
  refine lexW_heavy (by kernel_rfl) ?_
  go_wp2_with (at_builtin; refine wpList_append_slc _ rfl _ _ 24 rfl w1.heap.size 5 i0 (.int .u8 0) 1 1 Tryd.underlying24 HI.out HZ0.out HZ1.out HZ2.out rfl (by decide) _ _ _ rfl (winRow_made w1.drew 5 1) _ L.length (byteV L) rfl (HV.out.below (HB1.out.trans (((Below.refl _ _).drew.alloc (Nat.le_refl _) _).mono HB1.out.size))) (byteV_one L) (by unfold maxLen; omega) (by omega) (by simp) ?_; intro u2 w2 hown hgrow hat)
  have hown : winRow w2 w1.heap.size 5 1 u2 L.length (byteV L) := by simpa using hown
  have hB2 : Below w1.heap.size w1 w2 := ((Below.refl _ _).drew.alloc (Nat.le_refl _) _).grown hgrow (by simp) (by intro k hk; have hk : some w1.heap.size = some k := hk; exact Nat.le_of_eq (Option.some.inj hk))
  have HU2 := Lib.hid hown.slc
  have HB2 := Lib.hid hB2
  have HF2 := Lib.hid (HF.out.below hB2)
  clear hown hgrow hat hB2
  refine lexQ_more (Hof.out _ HB2.out) ?_
  refine lexW_light 2 (by kernel_rfl) ?_
  simp only [List.take_succ_cons, List.take_zero, List.drop_succ_cons, List.drop_zero]
  repeat (first | go_big_quiet_skip | (go_big_quiet_want; go_big_quiet_op; go_big_quiet_on))
  refine wpQuiet_nil ?_
  refine lexW_done ?_
  go_wp2_with fail
  have hF0 : slc w2 1 (.slice (some ⟨gf, 0, none⟩) L.length capf) L.length (byteV L) := by
    refine ⟨by rw [byteV_length, Nat.mul_one], _, capf, rfl, fun _ => ?_⟩
    obtain ⟨g2, o2, c2, he, _, _, hg, hc⟩ := HF2.out.form (by omega)
    simp only [Value.slice.injEq, Option.some.injEq, Addr.mk.injEq] at he
    obtain ⟨⟨rfl, rfl, _⟩, _, _⟩ := he
    exact ⟨gf, 0, rfl, hg, fun j x hj => hc j x (by
      rw [byteV_append, List.getElem?_append_left (List.getElem?_eq_some_iff.1 hj).1]
      exact hj)⟩
  have HF0 := Lib.hid hF0
  clear hF0
  go_loopw [6, 7, 8] (fun s6 s7 s8 wr => ∃ k : Nat, k ≤ n ∧ k ≤ 30 ∧ s8 = .int .i64 k ∧ slc wr 1 s6 (L ++ cat g k).length (byteV (L ++ cat g k)) ∧ slc wr 1 s7 (L ++ cat g k).length (byteV (L ++ cat g k)) ∧ Below w2.heap.size w2 wr) (fun _ _ s8 _ => 30 - (intOf s8).toNat)
  case atStart => exact ⟨0, by omega, by omega, rfl, by simpa [cat] using HF0.out, by simpa [cat] using HU2.out, Below.refl _ _⟩
  case round =>
    clear HF0 HU2
    obtain ⟨k, hk, hk30, rfl, h6, h7, hB⟩ := hrel
    have H6 := Lib.hid h6
    have H7 := Lib.hid h7
    have HB := Lib.hid hB
    have HW := Lib.hid ((HB1.out.trans (HB2.out.mono HB1.out.size)).trans (hB.mono (HB1.out.trans (HB2.out.mono HB1.out.size)).size))
    have HCL := Lib.hid (cat_len g k fun i hi => HBD.out i (by omega))
    have HLL := Lib.hid (show (L ++ cat g k).length ≤ 140737488351232 + 300 by rw [List.length_append]; have := HCL.out; omega)
    by_cases hkn : k < n ∧ k < 30
    · obtain ⟨hkn, hk3⟩ := hkn
      have g3 : decide (k < n) = true := by simp; omega
      obtain ⟨bq, oq, rfl, hbq, hcq⟩ := HEL.out k hkn
      have e1 := (HW.out.cell (p := ⟨bq, oq + k, none⟩) hbq).trans hcq
      have HBK := Lib.hid (HBD.out k hkn)
      have hbr : bq < wr.heap.size := Nat.lt_of_lt_of_le hbq HW.out.size
      clear hcq hbq h6 h7 hB
      go_wp2_with fail
      refine wp_region_lexA ⟨[], []⟩ (fun x => Below wr.heap.size wr x) (by kernel_rfl) (by kernel_rfl) (Below.refl _ _).drew ?_
      intro S hto hof hne
      have x1 : ∀ z : Wd S, z.w.cell? ⟨bq, oq + k, none⟩ = some (.int .i64 (g k)) := fun z => ((hto z).cell (p := ⟨bq, oq + k, none⟩) hbr).trans e1
      have Hof := Lib.hid hof
      clear hto hof e1
      refine lexW_light 5 (by kernel_rfl) ?_
      simp only [List.take_succ_cons, List.take_zero, List.drop_succ_cons, List.drop_zero]
      repeat (first | go_big_quiet_skip | (go_big_quiet_want; go_big_quiet_op; go_big_quiet_on))
      refine wpQuiet_nil ?_
      refine lexW_heavy (by kernel_rfl) ?_
      go_wp2_with fail
      refine (num_c _ (L ++ cat g k) (g k) _ (H6.out.below (Below.refl _ _).drew) HBK.out (by have := HLL.out; omega)).mono ?_
      rintro ev w3 ⟨u3, rfl, hu3, hb3⟩
      have HB3 := Lib.hid ((Below.refl wr.heap.size wr).drew.trans hb3)
      have HU3 := Lib.hid hu3.slc
      clear hu3 hb3
      go_wp2_with fail
      refine lexQ_more (Hof.out _ HB3.out) ?_
      refine lexW_light 5 (by kernel_rfl) ?_
      simp only [List.take_succ_cons, List.take_zero, List.drop_succ_cons, List.drop_zero]
      repeat (first | go_big_quiet_skip | (go_big_quiet_want; go_big_quiet_op; go_big_quiet_on))
      refine wpQuiet_nil ?_
      refine lexW_heavy (by kernel_rfl) ?_
      go_wp2_with fail
      refine (rNum_c _ (L ++ cat g k) (g k) _ (H7.out.below HB3.out) HBK.out (by have := HLL.out; omega)).mono ?_
      rintro ev w4 ⟨u4, rfl, hu4, hb4⟩
      have HB4 := Lib.hid (HB3.out.trans (hb4.mono HB3.out.size))
      have HU4 := Lib.hid hu4.slc
      have HU34 := Lib.hid (HU3.out.below hb4)
      clear hu4 hb4
      go_wp2_with fail
      refine lexQ_more (Hof.out _ HB4.out) ?_
      refine lexW_light 2 (by kernel_rfl) ?_
      simp only [List.take_succ_cons, List.take_zero, List.drop_succ_cons, List.drop_zero]
      repeat (first | go_big_quiet_skip | (go_big_quiet_want; go_big_quiet_op; go_big_quiet_on))
      refine wpQuiet_nil ?_
      refine lexW_done ?_
      go_wp2_with fail
      go_roundw
      case rel =>
        refine ⟨k + 1, by omega, by omega, by go_num, ?_, ?_, HB.out.trans (HB4.out.mono HB.out.size)⟩
        · have h := HU34.out
          rw [← List.length_append] at h
          rw [cat, ← List.append_assoc]
          exact h
        · have h := HU4.out
          rw [← List.length_append] at h
          rw [cat, ← List.append_assoc]
          exact h
      case measure => simp [intOf]; omega
    · have g3 : (decide (k < n) && decide (k < 30)) = false := by simp; omega
      clear h6 h7 hB
      have fin : True := trivial
      by_cases hkn1 : k < n
      · have g4 : decide (k < n) = true := by simp; omega
        have g5 : decide ((k : Int) < 30) = false := by simp; omega
        clear hkn g3
        go_wp2_with fail
        refine (sameG_c (L ++ cat g k) (L ++ cat g k) _ _ _ H6.out H7.out (by have := HLL.out; omega) (by have := HLL.out; omega)).mono ?_
        rintro ev w5 ⟨rfl, hb5⟩
        rw [decide_eq_true rfl]
        have HB5 := Lib.hid (HB.out.trans (hb5.mono HB.out.size))
        clear hb5
        go_wp2_with fail
        refine (intactB_c _ _ L 11 w.heap.size _ (HF2.out.below HB5.out) (HV.out.below ((HB1.out.trans (HB2.out.mono HB1.out.size)).trans (HB5.out.mono (HB1.out.trans (HB2.out.mono HB1.out.size)).size))) HLEN.out).mono ?_
        rintro ev w6 ⟨rfl, hb6⟩
        have HB6 := Lib.hid (HB5.out.trans (hb6.mono HB5.out.size))
        have HW6 := Lib.hid ((HB1.out.trans (HB2.out.mono HB1.out.size)).trans (HB6.out.mono (HB1.out.trans (HB2.out.mono HB1.out.size)).size))
        clear hb6
        go_wp2_with fail
        refine (packRuns A _ (HS.out.below HW6.out)).mono ?_
        rintro ev w7 ⟨rfl, hb7⟩
        go_wp2_with fail
        go_ret
        exact ⟨rfl, HW6.out.trans (hb7.mono HW6.out.size)⟩
      · have g4 : decide (k < n) = false := by simp; omega
        clear hkn g3
        go_wp2_with fail
        refine (sameG_c (L ++ cat g k) (L ++ cat g k) _ _ _ H6.out H7.out (by have := HLL.out; omega) (by have := HLL.out; omega)).mono ?_
        rintro ev w5 ⟨rfl, hb5⟩
        rw [decide_eq_true rfl]
        have HB5 := Lib.hid (HB.out.trans (hb5.mono HB.out.size))
        clear hb5
        go_wp2_with fail
        refine (intactB_c _ _ L 11 w.heap.size _ (HF2.out.below HB5.out) (HV.out.below ((HB1.out.trans (HB2.out.mono HB1.out.size)).trans (HB5.out.mono (HB1.out.trans (HB2.out.mono HB1.out.size)).size))) HLEN.out).mono ?_
        rintro ev w6 ⟨rfl, hb6⟩
        have HB6 := Lib.hid (HB5.out.trans (hb6.mono HB5.out.size))
        have HW6 := Lib.hid ((HB1.out.trans (HB2.out.mono HB1.out.size)).trans (HB6.out.mono (HB1.out.trans (HB2.out.mono HB1.out.size)).size))
        clear hb6
        go_wp2_with fail
        refine (packRuns A _ (HS.out.below HW6.out)).mono ?_
        rintro ev w7 ⟨rfl, hb7⟩
        go_wp2_with fail
        go_ret
        exact ⟨rfl, HW6.out.trans (hb7.mono HW6.out.size)⟩

end Go.Proofs.YthmgccakhhggjaaDoor
