/- AdaptPlays: true; no condition but what a start gives. -/
import Derived.Test.YtaecihljgbjmcaaDoorRAd3
namespace Go.Proofs.YtaecihljgbjmcaaDoor
open Go.RowKit Go.Extern.Stop Go.Stop Go.Extern

theorem AdaptAt.mods {S : Nat → Prop} {w w' : World} {b : Nat} {C : Nat → Int} (h : AdaptAt w b C) (hm : Mods S w w') (hb : ¬ S b) : AdaptAt w' b C :=
  ⟨fun k hk => (World.cell?_of_block (hm.block b h.lt hb)).trans (h.cell k hk), fun k hk => (World.frozen?_of_block (hm.block b h.lt hb)).trans (h.froz k hk)⟩
/-- Both classifiers, the reference's told by the program's counters. -/
structure PlA (w : World) (b1 b2 : Nat) (C : Nat → Int) (wx : World) : Prop where
  one : AdaptAt wx b1 C
  two : AdaptAt wx b2 (refC C)
  below : Below w.heap.size w wx
theorem PlA.bel {w wx wy : World} {b1 b2 : Nat} {C : Nat → Int} (h : PlA w b1 b2 C wx) (hb : Below wx.heap.size wx wy) : PlA w b1 b2 C wy := ⟨h.one.below hb h.one.lt, h.two.below hb h.two.lt, h.below.trans (hb.mono h.below.size)⟩
theorem adT_is (at_ : Int) : isK (.wrap adT at_ (.sent 0)) 1 adT at_ = true := by simp [isK, ErrT.code]

set_option maxRecDepth 100000 in
set_option maxHeartbeats 4000000 in
theorem adaptPlays (A : Nat → Addr) (high low : Int) (v : Value) (n : Nat) (g : Nat → Nat → Int) (line mode : Int) (w : World) (hs : SentAt w A) (_b1 : -9223372036854775808 ≤ high ∧ high ≤ 9223372036854775807) (_b2 : -9223372036854775808 ≤ low ∧ low ≤ 9223372036854775807)
    (hl : AsksAt w v n g) (_b3 : -9223372036854775808 ≤ line ∧ line ≤ 9223372036854775807) (_b4 : -9223372036854775808 ≤ mode ∧ mode ≤ 9223372036854775807) :
    Calls Tryd.prog 14 #[.int .i64 high, .int .i64 low, v, .int .i64 line, .int .i64 mode] w (TruePost w) := by
  have HSE := Lib.hid hs
  have hlen := hl.len
  unfold maxLen at hlen
  have hsh : ∃ ad cap, v = .slice ad n cap ∧ (0 < n → ∃ ba oa, ad = some ⟨ba, oa, none⟩ ∧ ba < w.heap.size ∧ ∀ i j, i < n → j < 4 → w.cell? ⟨ba, oa + i * 4 + j, none⟩ = some (.int .i64 (g i j))) := by
    rcases hl.shape with ⟨p, cap, rfl, rfl⟩ | ⟨b, off, cap, rfl, hbw, hcell⟩
    · exact ⟨p, cap, rfl, fun h => absurd h (by omega)⟩
    · exact ⟨_, cap, rfl, fun _ => ⟨b, off, rfl, hbw, hcell⟩⟩
  obtain ⟨ad, cap, rfl, hel⟩ := hsh
  have HEL := Lib.hid hel
  clear hel hl hs
  by_cases hok : 1 ≤ high ∧ high ≤ 15 ∧ -1 ≤ low ∧ low < high
  · obtain ⟨h1, h2, h3, h4⟩ := hok
    go_enter Tryd.func14, Tryd.ntmps14
    go_wp2_with fail
    refine (new_ok high low w h1 h2 h3 h4).mono ?_
    rintro ev w1 ⟨rfl, hA1, hz1, hB1⟩
    have HA1 := Lib.hid hA1
    have HB1 := Lib.hid hB1
    have HZ1 := Lib.hid hz1
    clear hA1 hB1 hz1
    obtain ⟨b1, hb1⟩ : ∃ b, b = w.heap.size := ⟨_, rfl⟩
    rw [← hb1] at HA1 HZ1 ⊢
    have HL1 := Lib.hid (show w.heap.size ≤ b1 by omega)
    clear hb1
    go_wp2_with fail
    refine (rnew_ok high low w1 h1 h2 h3 h4).mono ?_
    rintro ev w2 ⟨rfl, hA2, hz2, hB2⟩
    obtain ⟨b2, hb2⟩ : ∃ b, b = w1.heap.size := ⟨_, rfl⟩
    have HP0 := Lib.hid (show PlA w b1 b2 (newC high low) w2 from ⟨HA1.out.below hB2 HZ1.out, by rw [hb2]; exact hA2, HB1.out.trans (hB2.mono HB1.out.size)⟩)
    have HNE := Lib.hid (show w.heap.size ≤ b1 ∧ w.heap.size ≤ b2 ∧ b1 ≠ b2 from ⟨HL1.out, by have := HB1.out.size; omega, by have := HZ1.out; omega⟩)
    rw [← hb2]
    clear hA2 hz2 hB2 hb2 HA1 HB1 HZ1 HL1
    go_upto_region 6 with fail
    go_wp2_with fail
    refine (is_c A .nil 0 adT 1 w2 (HSE.out.below HP0.out.below) trivial (by omega) (by omega)).mono ?_
    rintro ev w3 ⟨rfl, hb3⟩
    have HP1 := Lib.hid (HP0.out.bel hb3)
    rw [show isK .nil 0 adT 1 = true from rfl]
    clear hb3 HP0 h1 h2 h3 h4
    go_wp2_with fail
    go_loopw [16] (fun s16 wr => ∃ (i : Nat) (C : Nat → Int), i ≤ n ∧ i ≤ 80 ∧ s16 = .int .i64 i ∧ OkC C ∧ PlA w b1 b2 C wr) (fun s16 _ => 80 - (intOf s16).toNat)
    case atStart => exact ⟨0, newC high low, by omega, by omega, rfl, OkC.new high low, HP1.out⟩
    case round =>
      clear HP1
      obtain ⟨i, C, hi, hi80, rfl, hok, hP⟩ := hrel
      have HP := Lib.hid hP
      have HOK := Lib.hid hok
      clear hP hok
      by_cases hin : i < n
      · by_cases hi8 : i < 80
        · have k1 : decide (i < n) = true := by simpa using hin
          have k2 : decide ((i : Int) < 80) = true := by simp; omega
          obtain ⟨ba, oa, rfl, hba, hce⟩ := HEL.out (by omega)
          have a0 := (HP.out.below.cell (p := ⟨ba, _, none⟩) hba).trans (hce i 0 hin (by omega))
          have a1 := (HP.out.below.cell (p := ⟨ba, _, none⟩) hba).trans (hce i 1 hin (by omega))
          have a2 := (HP.out.below.cell (p := ⟨ba, _, none⟩) hba).trans (hce i 2 hin (by omega))
          have a3 := (HP.out.below.cell (p := ⟨ba, _, none⟩) hba).trans (hce i 3 hin (by omega))
          simp only [Nat.add_zero] at a0
          generalize g i 0 = q0 at *
          generalize g i 1 = q1 at *
          generalize g i 2 = q2 at *
          generalize g i 3 = q3 at *
          clear hce
          go_upto_region 12 with fail
          have hb4 : Below wr.heap.size wr (wr.alloc (.cells #[.int .i64 q0, .int .i64 q1, .int .i64 q2, .int .i64 q3] 35)) := (Below.refl _ _).alloc (Nat.le_refl _) _
          have HP4 := Lib.hid (HP.out.bel hb4)
          have HQ4 := Lib.hid (heap_alloc_new wr (.cells #[.int .i64 q0, .int .i64 q1, .int .i64 q2, .int .i64 q3] 35))
          have HH := Lib.hid (show b1 < wr.heap.size ∧ b2 < wr.heap.size from ⟨HP.out.one.lt, HP.out.two.lt⟩)
          obtain ⟨h17, hh17⟩ : ∃ h, h = wr.heap.size := ⟨_, rfl⟩
          rw [← hh17] at HQ4 HH ⊢
          generalize wr.alloc (.cells #[.int .i64 q0, .int .i64 q1, .int .i64 q2, .int .i64 q3] 35) = w4 at *
          clear hb4 hh17 HP a0 a1 a2 a3 hba
          have hle := HNE.out
          have HN17 := Lib.hid (show h17 ≠ b1 ∧ h17 ≠ b2 from by have := HH.out; omega)
          have hxc := HQ4.out
          have c0 := cell_of hxc 0
          have c1 := cell_of hxc 1
          have c2 := cell_of hxc 2
          have c3 := cell_of hxc 3
          simp only [List.getElem?_toArray, List.getElem?_cons_zero, List.getElem?_cons_succ] at c0 c1 c2 c3
          have hlc := (Array.getElem?_eq_some_iff.1 hxc).1
          refine wp_region_lexA ⟨[], []⟩ (fun x => Mods (fun k => k = b1 ∨ k = b2) w4 x) (by kernel_rfl) (by kernel_rfl) (Mods.refl _ _).drew ?_
          intro S hto hof hne
          have x0 : ∀ z : Wd S, z.w.cell? ⟨h17, 0, none⟩ = some (.int .i64 q0) := fun z => ((hto z).cell (p := ⟨h17, 0, none⟩) hlc (by have := HN17.out; simp only; omega)).trans c0
          have x1 : ∀ z : Wd S, z.w.cell? ⟨h17, 1, none⟩ = some (.int .i64 q1) := fun z => ((hto z).cell (p := ⟨h17, 1, none⟩) hlc (by have := HN17.out; simp only; omega)).trans c1
          have x2 : ∀ z : Wd S, z.w.cell? ⟨h17, 2, none⟩ = some (.int .i64 q2) := fun z => ((hto z).cell (p := ⟨h17, 2, none⟩) hlc (by have := HN17.out; simp only; omega)).trans c2
          have x3 : ∀ z : Wd S, z.w.cell? ⟨h17, 3, none⟩ = some (.int .i64 q3) := fun z => ((hto z).cell (p := ⟨h17, 3, none⟩) hlc (by have := HN17.out; simp only; omega)).trans c3
          have Hof := Lib.hid hof
          clear hto hof hxc hlc c0 c1 c2 c3
          refine lexW_light 9 (by kernel_rfl) ?_
          simp only [List.take_succ_cons, List.take_zero, List.drop_succ_cons, List.drop_zero]
          repeat (first | go_big_quiet_skip | (go_big_quiet_want; go_big_quiet_op; go_big_quiet_on))
          refine wpQuiet_nil ?_
          refine lexW_heavy (by kernel_rfl) ?_
          go_wp2_with fail
          refine (note_any b1 C q0 q1 q2 q3 w4.drew (HP4.out.one.drewN 1) HOK.out).mono ?_
          rintro ev y1 ⟨rfl, hA1, hg1⟩
          have hM1 : Mods (fun k => k = b1) w4.drew y1 := Mods.grown hg1 fun k hk => (Option.some.inj hk).symm
          have HM1 := Lib.hid (show Mods (fun k => k = b1 ∨ k = b2) w4 y1 from (Mods.refl (fun k => k = b1 ∨ k = b2) w4).drew.trans hM1 fun _ _ h => .inl h)
          have HA1 := Lib.hid hA1
          have HA2 := Lib.hid (show AdaptAt y1 b2 (refC C) from (HP4.out.two.drewN 1).mods hM1 fun (e : b2 = b1) => HNE.out.2.2 e.symm)
          clear hA1 hg1 hM1
          obtain ⟨r, hr⟩ : ∃ r, noteOk q0 q1 q2 q3 = r := ⟨_, rfl⟩
          have HR := Lib.hid hr
          rw [hr]
          clear hr
          go_wp2_with fail
          refine lexQ_more (Hof.out _ HM1.out) ?_
          refine lexW_light 9 (by kernel_rfl) ?_
          simp only [List.take_succ_cons, List.take_zero, List.drop_succ_cons, List.drop_zero]
          repeat (first | go_big_quiet_skip | (go_big_quiet_want; go_big_quiet_op; go_big_quiet_on))
          refine wpQuiet_nil ?_
          refine lexW_heavy (by kernel_rfl) ?_
          go_wp2_with fail
          refine (rnote_any b2 C q0 q1 q2 q3 y1 HA2.out HOK.out).mono ?_
          rintro ev y2 ⟨rfl, hA2, hg2⟩
          have hM2 : Mods (fun k => k = b2) y1 y2 := Mods.grown hg2 fun k hk => (Option.some.inj hk).symm
          have HM2 := Lib.hid (show Mods (fun k => k = b1 ∨ k = b2) w4 y2 from HM1.out.trans hM2 fun _ _ h => .inr h)
          have HP5 := Lib.hid (show PlA w b1 b2 (noteC C q0 q1 q2 q3) y2 from ⟨HA1.out.mods hM2 fun (e : b1 = b2) => HNE.out.2.2 e, hA2, HP4.out.below.trans (HM2.out.below HP4.out.below.size fun k hk => by rcases hk with rfl | rfl; exact hle.1; exact hle.2.1)⟩)
          have HQ5 := Lib.hid ((HM2.out.block h17 (Array.getElem?_eq_some_iff.1 HQ4.out).1 (by have := HN17.out; omega)).trans HQ4.out)
          clear hA2 hg2 hM2
          rw [HR.out]
          go_wp2_with fail
          refine lexQ_more (Hof.out _ HM2.out) ?_
          refine lexW_light 1 (by kernel_rfl) ?_
          simp only [List.take_succ_cons, List.take_zero, List.drop_succ_cons, List.drop_zero]
          repeat (first | go_big_quiet_skip | (go_big_quiet_want; go_big_quiet_op; go_big_quiet_on))
          refine wpQuiet_nil ?_
          refine lexW_done ?_
          have HO2 := Lib.hid (HOK.out.note q0 q1 q2 q3)
          clear x0 x1 x2 x3 Hof hne HM1 HM2 HA1 HA2 HP4 HQ4 HOK HR
          generalize noteC C q0 q1 q2 q3 = D at *
          go_upto_block 2 with fail
          go_cut [18, 19, 20, 21, 22] from 103 to 142 (fun _ _ _ _ _ wx => PlA w b1 b2 D wx ∧ wx.heap[h17]? = some (.cells #[.int .i64 q0, .int .i64 q1, .int .i64 q2, .int .i64 q3] 35 (0, 0)))
          case first =>
            go_wp2_with fail
            go_loopw [18] (fun s18 wr => ∃ k : Int, -1 ≤ k ∧ k ≤ 9 ∧ s18 = .int .i64 k ∧ PlA w b1 b2 D wr ∧ wr.heap[h17]? = some (.cells #[.int .i64 q0, .int .i64 q1, .int .i64 q2, .int .i64 q3] 35 (0, 0))) (fun s18 _ => (9 - intOf s18).toNat)
            case atStart => exact ⟨-1, by omega, by omega, rfl, HP5.out, HQ5.out⟩
            case round =>
              clear HP5 HQ5
              obtain ⟨k, hk0, hk9, rfl, hP, hQ⟩ := hrel
              have HP := Lib.hid hP
              have HQ := Lib.hid hQ
              clear hP hQ
              by_cases hk : k ≤ 8
              · have g1 : decide (k ≤ 8) = true := by simpa using hk
                by_cases hin : 0 ≤ k ∧ k < 8
                · skip
                  go_wp2_with fail
                  refine (counts_any b1 D k wr HP.out.one hin.1 hin.2).mono ?_
                  rintro ev w' ⟨rfl, hww⟩
                  obtain rfl := hww
                  go_upto_region 19 with fail
                  have hb6 : Below wr.heap.size wr ((wr.alloc (.cells #[.int .i64 0, .int .i64 0, .int .i64 0, .int .i64 0, .int .i64 0] 57)).drew) := ((Below.refl _ _).alloc (Nat.le_refl _) _).drew
                  have HP6 := Lib.hid (HP.out.bel hb6)
                  have HQ6 := Lib.hid ((hb6.block h17 (Array.getElem?_eq_some_iff.1 HQ.out).1).trans HQ.out)
                  have HZ6 := Lib.hid (show (wr.alloc (.cells #[.int .i64 0, .int .i64 0, .int .i64 0, .int .i64 0, .int .i64 0] 57)).drew.heap[wr.heap.size]? = some (.cells #[.int .i64 0, .int .i64 0, .int .i64 0, .int .i64 0, .int .i64 0] 57 (0, 0)) from heap_alloc_new wr _)
                  have HB6 := Lib.hid hb6
                  obtain ⟨h22, hh22⟩ : ∃ h, h = wr.heap.size := ⟨_, rfl⟩
                  have HZ7 := Lib.hid (show (wr.alloc (.cells #[.int .i64 0, .int .i64 0, .int .i64 0, .int .i64 0, .int .i64 0] 57)).drew.heap[h22]? = some (.cells #[.int .i64 0, .int .i64 0, .int .i64 0, .int .i64 0, .int .i64 0] 57 (0, 0)) from by rw [hh22]; exact HZ6.out)
                  have HLE := Lib.hid (show wr.heap.size ≤ h22 ∧ h17 ≠ h22 from by have := (Array.getElem?_eq_some_iff.1 HQ.out).1; exact ⟨by omega, by omega⟩)
                  try simp only [show wr.drew.heap.size = wr.heap.size from rfl]
                  rw [← hh22]
                  generalize (wr.alloc (.cells #[.int .i64 0, .int .i64 0, .int .i64 0, .int .i64 0, .int .i64 0] 57)).drew = w6 at *
                  clear hb6 HZ6 hh22
                  have hxz := HZ7.out
                  have z0 := cell_of hxz 0
                  have z1 := cell_of hxz 1
                  have z2 := cell_of hxz 2
                  have z3 := cell_of hxz 3
                  have z4 := cell_of hxz 4
                  simp only [List.getElem?_toArray, List.getElem?_cons_zero, List.getElem?_cons_succ] at z0 z1 z2 z3 z4
                  have hlz := (Array.getElem?_eq_some_iff.1 hxz).1
                  have f0 := frozen_of hxz 0
                  have f1 := frozen_of hxz 1
                  have f2 := frozen_of hxz 2
                  have f3 := frozen_of hxz 3
                  have f4 := frozen_of hxz 4
                  obtain ⟨m, rfl⟩ := Int.eq_ofNat_of_zero_le hin.1
                  have hm8 : m < 8 := by omega
                  simp only [Int.toNat_natCast]
                  have a0 := HP6.out.two.cell (2 + m * 5) (by omega)
                  have a1 := HP6.out.two.cell (2 + m * 5 + 1) (by omega)
                  have a2 := HP6.out.two.cell (2 + m * 5 + 2) (by omega)
                  have a3 := HP6.out.two.cell (2 + m * 5 + 3) (by omega)
                  have a4 := HP6.out.two.cell (2 + m * 5 + 4) (by omega)
                  have e2 := refC_atlo D m (j := 0) (by omega)
                  have e3 := refC_atlo D m (j := 1) (by omega)
                  have e4 := refC_atlo D m (j := 2) (by omega)
                  simp only [Nat.add_zero] at e2
                  rw [show 2 + m * 5 + 2 + 1 = 2 + m * 5 + 3 by omega] at e3
                  rw [show 2 + m * 5 + 2 + 2 = 2 + m * 5 + 4 by omega] at e4
                  rw [e2] at a2
                  rw [e3] at a3
                  rw [e4] at a4
                  generalize D (2 + m * 5) = x at *
                  generalize D (2 + m * 5 + 1) = y at *
                  generalize D (2 + m * 5 + 2) = z at *
                  generalize refC D (2 + m * 5) = l0 at *
                  generalize refC D (2 + m * 5 + 1) = l1 at *
                  clear e2 e3 e4 hin
                  have i0 : (0 : Int) ≤ (m : Int) := by omega
                  have i8 : (m : Int) < 8 := by omega
                  have g8 : decide ((m : Int) < 8) = true := by simp; omega
                  have g0 : decide ((0 : Int) ≤ (m : Int)) = true := by simp
                  have HBZ := Lib.hid (((((HB6.out.setCell (p := ⟨h22, 0, none⟩) HLE.out.1 (.int .i64 l0)).setCell (p := ⟨h22, 1, none⟩) HLE.out.1 (.int .i64 l1)).setCell (p := ⟨h22, 2, none⟩) HLE.out.1 (.int .i64 x)).setCell (p := ⟨h22, 3, none⟩) HLE.out.1 (.int .i64 y)).setCell (p := ⟨h22, 4, none⟩) HLE.out.1 (.int .i64 z))
                  go_wp2_with fail
                  go_roundw
                  case rel => exact ⟨(m : Int) + 1, by omega, by omega, by go_num, HP.out.bel HBZ.out, (HBZ.out.block h17 (Array.getElem?_eq_some_iff.1 HQ.out).1).trans HQ.out⟩
                  case measure => simp [intOf] <;> omega
                · have hk1 : k = -1 ∨ k = 8 := by omega
                  rcases hk1 with rfl | rfl
                  · skip
                    go_wp2_with fail
                    refine (counts_no b1 (-1) wr (by omega)).mono ?_
                    rintro ev w' ⟨rfl, hww⟩
                    obtain rfl := hww.symm
                    go_upto_region 19 with fail
                    have hb6 : Below wr.heap.size wr (wr.alloc (.cells #[.int .i64 0, .int .i64 0, .int .i64 0, .int .i64 0, .int .i64 0] 57)) := (Below.refl _ _).alloc (Nat.le_refl _) _
                    have HP6 := Lib.hid (HP.out.bel hb6)
                    have HQ6 := Lib.hid ((hb6.block h17 (Array.getElem?_eq_some_iff.1 HQ.out).1).trans HQ.out)
                    have HZ6 := Lib.hid (heap_alloc_new wr (.cells #[.int .i64 0, .int .i64 0, .int .i64 0, .int .i64 0, .int .i64 0] 57))
                    have HB6 := Lib.hid hb6
                    obtain ⟨h22, hh22⟩ : ∃ h, h = wr.heap.size := ⟨_, rfl⟩
                    have HZ7 := Lib.hid (show (wr.alloc (.cells #[.int .i64 0, .int .i64 0, .int .i64 0, .int .i64 0, .int .i64 0] 57)).heap[h22]? = some (.cells #[.int .i64 0, .int .i64 0, .int .i64 0, .int .i64 0, .int .i64 0] 57 (0, 0)) from by rw [hh22]; exact HZ6.out)
                    have HLE := Lib.hid (show wr.heap.size ≤ h22 ∧ h17 ≠ h22 from by have := (Array.getElem?_eq_some_iff.1 HQ.out).1; exact ⟨by omega, by omega⟩)
                    try simp only [show wr.drew.heap.size = wr.heap.size from rfl]
                    rw [← hh22]
                    generalize wr.alloc (.cells #[.int .i64 0, .int .i64 0, .int .i64 0, .int .i64 0, .int .i64 0] 57) = w6 at *
                    clear hb6 HZ6 hh22
                    have hxz := HZ7.out
                    have z0 := cell_of hxz 0
                    have z1 := cell_of hxz 1
                    have z2 := cell_of hxz 2
                    have z3 := cell_of hxz 3
                    have z4 := cell_of hxz 4
                    simp only [List.getElem?_toArray, List.getElem?_cons_zero, List.getElem?_cons_succ] at z0 z1 z2 z3 z4
                    have hlz := (Array.getElem?_eq_some_iff.1 hxz).1
                    go_wp2_with fail
                    go_roundw
                    case rel => exact ⟨0, by omega, by omega, by go_num, HP6.out, HQ6.out⟩
                    case measure => simp [intOf] <;> omega
                  · skip
                    go_wp2_with fail
                    refine (counts_no b1 8 wr (by omega)).mono ?_
                    rintro ev w' ⟨rfl, hww⟩
                    obtain rfl := hww.symm
                    go_upto_region 19 with fail
                    have hb6 : Below wr.heap.size wr (wr.alloc (.cells #[.int .i64 0, .int .i64 0, .int .i64 0, .int .i64 0, .int .i64 0] 57)) := (Below.refl _ _).alloc (Nat.le_refl _) _
                    have HP6 := Lib.hid (HP.out.bel hb6)
                    have HQ6 := Lib.hid ((hb6.block h17 (Array.getElem?_eq_some_iff.1 HQ.out).1).trans HQ.out)
                    have HZ6 := Lib.hid (heap_alloc_new wr (.cells #[.int .i64 0, .int .i64 0, .int .i64 0, .int .i64 0, .int .i64 0] 57))
                    have HB6 := Lib.hid hb6
                    obtain ⟨h22, hh22⟩ : ∃ h, h = wr.heap.size := ⟨_, rfl⟩
                    have HZ7 := Lib.hid (show (wr.alloc (.cells #[.int .i64 0, .int .i64 0, .int .i64 0, .int .i64 0, .int .i64 0] 57)).heap[h22]? = some (.cells #[.int .i64 0, .int .i64 0, .int .i64 0, .int .i64 0, .int .i64 0] 57 (0, 0)) from by rw [hh22]; exact HZ6.out)
                    have HLE := Lib.hid (show wr.heap.size ≤ h22 ∧ h17 ≠ h22 from by have := (Array.getElem?_eq_some_iff.1 HQ.out).1; exact ⟨by omega, by omega⟩)
                    try simp only [show wr.drew.heap.size = wr.heap.size from rfl]
                    rw [← hh22]
                    generalize wr.alloc (.cells #[.int .i64 0, .int .i64 0, .int .i64 0, .int .i64 0, .int .i64 0] 57) = w6 at *
                    clear hb6 HZ6 hh22
                    have hxz := HZ7.out
                    have z0 := cell_of hxz 0
                    have z1 := cell_of hxz 1
                    have z2 := cell_of hxz 2
                    have z3 := cell_of hxz 3
                    have z4 := cell_of hxz 4
                    simp only [List.getElem?_toArray, List.getElem?_cons_zero, List.getElem?_cons_succ] at z0 z1 z2 z3 z4
                    have hlz := (Array.getElem?_eq_some_iff.1 hxz).1
                    go_wp2_with fail
                    go_roundw
                    case rel => exact ⟨9, by omega, by omega, by go_num, HP6.out, HQ6.out⟩
                    case measure => simp [intOf] <;> omega
              · have g1 : decide (k ≤ 8) = false := by simpa using hk
                go_wp2_with fail
                go_meet
                case rel => exact ⟨HP.out, HQ.out⟩
          case rest =>
            obtain ⟨hP, hQ⟩ := hcut
            have HP7 := Lib.hid hP
            have HQ7 := Lib.hid hQ
            clear hP hQ HP5 HQ5
            generalize wc = w7 at *
            go_upto_region 23 with fail
            have hxc := HQ7.out
            have c0 := cell_of hxc 0
            have c1 := cell_of hxc 1
            have c2 := cell_of hxc 2
            have c3 := cell_of hxc 3
            simp only [List.getElem?_toArray, List.getElem?_cons_zero, List.getElem?_cons_succ] at c0 c1 c2 c3
            have hlc := (Array.getElem?_eq_some_iff.1 hxc).1
            refine wp_region_lexA ⟨[], []⟩ (fun x => Below w7.heap.size w7 x) (by kernel_rfl) (by kernel_rfl) (Below.refl _ _).drew ?_
            intro S hto hof hne
            have x0 : ∀ z : Wd S, z.w.cell? ⟨h17, 0, none⟩ = some (.int .i64 q0) := fun z => ((hto z).cell (p := ⟨h17, 0, none⟩) hlc).trans c0
            have x1 : ∀ z : Wd S, z.w.cell? ⟨h17, 1, none⟩ = some (.int .i64 q1) := fun z => ((hto z).cell (p := ⟨h17, 1, none⟩) hlc).trans c1
            have x2 : ∀ z : Wd S, z.w.cell? ⟨h17, 2, none⟩ = some (.int .i64 q2) := fun z => ((hto z).cell (p := ⟨h17, 2, none⟩) hlc).trans c2
            have x3 : ∀ z : Wd S, z.w.cell? ⟨h17, 3, none⟩ = some (.int .i64 q3) := fun z => ((hto z).cell (p := ⟨h17, 3, none⟩) hlc).trans c3
            have Hof := Lib.hid hof
            clear hto hof hxc hlc c0 c1 c2 c3
            refine lexW_light 4 (by kernel_rfl) ?_
            simp only [List.take_succ_cons, List.take_zero, List.drop_succ_cons, List.drop_zero]
            repeat (first | go_big_quiet_skip | (go_big_quiet_want; go_big_quiet_op; go_big_quiet_on))
            refine wpQuiet_nil ?_
            refine lexW_heavy (by kernel_rfl) ?_
            go_wp2_with fail
            refine (pick_any b1 D q0 mode w7.drew (HP7.out.one.drewN 1)).mono ?_
            rintro ev y1 ⟨rfl, hy⟩
            have HB1 := Lib.hid ((Below.refl w7.heap.size w7).drew.trans hy)
            clear hy
            obtain ⟨r, hr⟩ : ∃ r, pickR D q0 mode = r := ⟨_, rfl⟩
            have HR := Lib.hid hr
            rw [hr]
            clear hr
            go_wp2_with fail
            refine lexQ_more (Hof.out _ HB1.out) ?_
            refine lexW_light 4 (by kernel_rfl) ?_
            simp only [List.take_succ_cons, List.take_zero, List.drop_succ_cons, List.drop_zero]
            repeat (first | go_big_quiet_skip | (go_big_quiet_want; go_big_quiet_op; go_big_quiet_on))
            refine wpQuiet_nil ?_
            refine lexW_heavy (by kernel_rfl) ?_
            go_wp2_with fail
            refine (rpick_any b2 D q0 mode y1 (HP7.out.bel HB1.out).two).mono ?_
            rintro ev y2 ⟨rfl, hy⟩
            have HB2 := Lib.hid (HB1.out.trans (hy.mono HB1.out.size))
            clear hy
            rw [HR.out]
            go_wp2_with fail
            refine lexQ_more (Hof.out _ HB2.out) ?_
            refine lexW_light 6 (by kernel_rfl) ?_
            simp only [List.take_succ_cons, List.take_zero, List.drop_succ_cons, List.drop_zero]
            repeat (first | go_big_quiet_skip | (go_big_quiet_want; go_big_quiet_op; go_big_quiet_on))
            refine wpQuiet_nil ?_
            refine lexW_heavy (by kernel_rfl) ?_
            go_wp2_with fail
            refine (pick_any b1 D line q1 y2 (HP7.out.bel HB2.out).one).mono ?_
            rintro ev y3 ⟨rfl, hy⟩
            have HB3 := Lib.hid (HB2.out.trans (hy.mono HB2.out.size))
            clear hy
            obtain ⟨t, ht⟩ : ∃ t, pickR D line q1 = t := ⟨_, rfl⟩
            have HT := Lib.hid ht
            rw [ht]
            clear ht
            go_wp2_with fail
            refine lexQ_more (Hof.out _ HB3.out) ?_
            refine lexW_light 4 (by kernel_rfl) ?_
            simp only [List.take_succ_cons, List.take_zero, List.drop_succ_cons, List.drop_zero]
            repeat (first | go_big_quiet_skip | (go_big_quiet_want; go_big_quiet_op; go_big_quiet_on))
            refine wpQuiet_nil ?_
            refine lexW_heavy (by kernel_rfl) ?_
            go_wp2_with fail
            refine (rpick_any b2 D line q1 y3 (HP7.out.bel HB3.out).two).mono ?_
            rintro ev y4 ⟨rfl, hy⟩
            have HB4 := Lib.hid (HB3.out.trans (hy.mono HB3.out.size))
            clear hy
            rw [HT.out]
            go_wp2_with fail
            refine lexQ_more (Hof.out _ HB4.out) ?_
            refine lexW_light 2 (by kernel_rfl) ?_
            simp only [List.take_succ_cons, List.take_zero, List.drop_succ_cons, List.drop_zero]
            repeat (first | go_big_quiet_skip | (go_big_quiet_want; go_big_quiet_op; go_big_quiet_on))
            refine wpQuiet_nil ?_
            refine lexW_done ?_
            clear x0 x1 x2 x3 Hof hne
            go_wp2_with fail
            go_roundw
            case rel => exact ⟨i + 1, D, by omega, by omega, by go_num, HO2.out, HP7.out.bel HB4.out⟩
            case measure => simp [intOf] <;> omega
        · have k2 : decide ((i : Int) < 80) = false := by simp; omega
          have k1 : decide (i < n) = true := by simpa using hin
          go_wp2_with fail
          refine (adaptRuns wr).mono ?_
          rintro ev w9 ⟨rfl, hb9⟩
          have HF := Lib.hid (HP.out.below.trans (hb9.mono HP.out.below.size))
          clear hb9
          go_wp2_with fail
          go_ret
          exact ⟨rfl, HF.out⟩
      · have k1 : decide (i < n) = false := by simpa using hin
        go_wp2_with fail
        refine (adaptRuns wr).mono ?_
        rintro ev w9 ⟨rfl, hb9⟩
        have HF := Lib.hid (HP.out.below.trans (hb9.mono HP.out.below.size))
        clear hb9
        go_wp2_with fail
        go_ret
        exact ⟨rfl, HF.out⟩
  · obtain ⟨at_, hat⟩ : ∃ at_ : Int, at_ = if 1 ≤ high ∧ high ≤ 15 then 1 else 0 := ⟨_, rfl⟩
    have h1 : 1 ≤ high ∧ high ≤ 15 → at_ = 1 := fun h => by rw [hat, if_pos h]
    have h2 : ¬ (1 ≤ high ∧ high ≤ 15) → at_ = 0 := fun h => by rw [hat, if_neg h]
    have HNB := Lib.hid (new_bad A high low at_ w HSE.out hok h1 h2)
    have HRB := Lib.hid (rnew_bad high low w hok)
    clear hat hok
    by_cases hh : 1 ≤ high ∧ high ≤ 15
    · obtain rfl := h1 hh
      obtain ⟨h3, h4⟩ := hh
      clear h1 h2
      go_enter Tryd.func14, Tryd.ntmps14
      go_wp2_with fail
      refine HNB.out.mono ?_
      rintro ev w' ⟨rfl, hww⟩
      obtain rfl := hww
      go_wp2_with fail
      refine HRB.out.mono ?_
      rintro ev w' ⟨rfl, hww⟩
      obtain rfl := hww
      clear HNB HRB
      have heq := fun w => eqlNil A (.wrap adT 1 (.sent 0)) w
      have hgd := fun op x c w => eqGuardNil A (.wrap adT 1 (.sent 0)) op x c w
      rw [show (ErrT.wrap adT 1 (.sent 0)).isNil = false from rfl] at heq
      obtain ⟨E, hE⟩ : ∃ E, ErrT.wrap adT 1 (.sent 0) = E := ⟨_, rfl⟩
      have HE := Lib.hid hE
      rw [hE] at heq hgd ⊢
      clear hE
      go_upto_region 6 with fail
      go_wp2_with fail
      refine (is_c A E 1 adT 1 w HSE.out (by rw [← HE.out]; exact ⟨rfl, show 0 < 10 by omega⟩) (by omega) (by omega)).mono ?_
      rintro ev w3 ⟨rfl, hb3⟩
      rw [show isK E 1 adT 1 = true from by rw [← HE.out]; exact adT_is 1]
      have HB3 := Lib.hid hb3
      clear hb3
      go_wp2_with fail
      go_loopw [16] (fun s16 wr => s16 = .int .i64 0 ∧ Below w.heap.size w wr) (fun _ _ => 0)
      case atStart => exact ⟨rfl, HB3.out⟩
      case round =>
        obtain ⟨rfl, hB⟩ := hrel
        have HB := Lib.hid hB
        clear hB HB3
        by_cases hn : 0 < n
        · have k1 : decide (0 < n) = true := by simpa using hn
          go_wp2_with fail
          refine (adaptRuns wr).mono ?_
          rintro ev w9 ⟨rfl, hb9⟩
          have HF := Lib.hid (HB.out.trans (hb9.mono HB.out.size))
          clear hb9
          go_wp2_with fail
          go_ret
          exact ⟨rfl, HF.out⟩
        · have k1 : decide (0 < n) = false := by simpa using hn
          go_wp2_with fail
          refine (adaptRuns wr).mono ?_
          rintro ev w9 ⟨rfl, hb9⟩
          have HF := Lib.hid (HB.out.trans (hb9.mono HB.out.size))
          clear hb9
          go_wp2_with fail
          go_ret
          exact ⟨rfl, HF.out⟩
    · obtain rfl := h2 hh
      have hl : high < 1 ∨ (1 ≤ high ∧ 15 < high) := by omega
      clear h1 h2 hh
      rcases hl with hl | ⟨hm, hl⟩
      all_goals
        go_enter Tryd.func14, Tryd.ntmps14
        go_wp2_with fail
        refine HNB.out.mono ?_
        rintro ev w' ⟨rfl, hww⟩
        obtain rfl := hww
        go_wp2_with fail
        refine HRB.out.mono ?_
        rintro ev w' ⟨rfl, hww⟩
        obtain rfl := hww
        clear HNB HRB
        have heq := fun w => eqlNil A (.wrap adT 0 (.sent 0)) w
        have hgd := fun op x c w => eqGuardNil A (.wrap adT 0 (.sent 0)) op x c w
        rw [show (ErrT.wrap adT 0 (.sent 0)).isNil = false from rfl] at heq
        obtain ⟨E, hE⟩ : ∃ E, ErrT.wrap adT 0 (.sent 0) = E := ⟨_, rfl⟩
        have HE := Lib.hid hE
        rw [hE] at heq hgd ⊢
        clear hE
        go_upto_region 6 with fail
        go_wp2_with fail
        refine (is_c A E 1 adT 0 w HSE.out (by rw [← HE.out]; exact ⟨rfl, show 0 < 10 by omega⟩) (by omega) (by omega)).mono ?_
        rintro ev w3 ⟨rfl, hb3⟩
        rw [show isK E 1 adT 0 = true from by rw [← HE.out]; exact adT_is 0]
        have HB3 := Lib.hid hb3
        clear hb3
        go_wp2_with fail
        go_loopw [16] (fun s16 wr => s16 = .int .i64 0 ∧ Below w.heap.size w wr) (fun _ _ => 0)
        case atStart => exact ⟨rfl, HB3.out⟩
        case round =>
          obtain ⟨rfl, hB⟩ := hrel
          have HB := Lib.hid hB
          clear hB HB3
          by_cases hn : 0 < n
          · have k1 : decide (0 < n) = true := by simpa using hn
            go_wp2_with fail
            refine (adaptRuns wr).mono ?_
            rintro ev w9 ⟨rfl, hb9⟩
            have HF := Lib.hid (HB.out.trans (hb9.mono HB.out.size))
            clear hb9
            go_wp2_with fail
            go_ret
            exact ⟨rfl, HF.out⟩
          · have k1 : decide (0 < n) = false := by simpa using hn
            go_wp2_with fail
            refine (adaptRuns wr).mono ?_
            rintro ev w9 ⟨rfl, hb9⟩
            have HF := Lib.hid (HB.out.trans (hb9.mono HB.out.size))
            clear hb9
            go_wp2_with fail
            go_ret
            exact ⟨rfl, HF.out⟩

end Go.Proofs.YtaecihljgbjmcaaDoor
