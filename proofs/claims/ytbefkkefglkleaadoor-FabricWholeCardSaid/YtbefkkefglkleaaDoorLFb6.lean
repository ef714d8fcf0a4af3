/- FabricWhole: true; no condition but what a start gives. -/
import Derived.Test.YtbefkkefglkleaaDoorFb6
import Derived.Test.YtbefkkefglkleaaDoorLFb5
namespace Go.Proofs.YtbefkkefglkleaaDoor
open Go.RowKit Go.Extern.Stop Go.Stop Go.Extern

set_option maxRecDepth 100000 in
set_option maxHeartbeats 16000000 in
theorem fabricWhole (A : Nat → Addr) (room : Int) (vl : Value) (nl : Nat) (l : List MsgV) (w : World) (hs : SentAt w A) (h2 : in64 room) (hl : MsgsAt w vl nl l) : Calls Tryd.prog 6 #[.int .i64 room, vl] w (TruePost w) := by
  have HS := Lib.hid hs
  have H2 := Lib.hid h2
  have HL := Lib.hid hl
  obtain ⟨_, al, cl, rfl, hel⟩ := hl.sl
  have HEL := Lib.hid hel
  have hnl : nl ≤ 9223372036854775807 := by have := hl.big; unfold maxLen at this; omega
  obtain ⟨i0, hi0, hi1⟩ := Option.map_eq_some_iff.1 nInfoM
  simp only [Prod.mk.injEq] at hi1
  obtain ⟨hz0, hz1, hz2⟩ := hi1
  have HI := Lib.hid hi0
  have HZ0 := Lib.hid hz0
  have HZ1 := Lib.hid hz1
  have HZ2 := Lib.hid hz2
  clear hi0 hz0 hz1 hz2 hs h2 hl hel
  go_enter Tryd.func6, Tryd.ntmps6
  go_wp2_with fail
  refine (Within_b room 1 6 w (by omega) (by omega) (by omega) H2.out.1 H2.out.2).mono ?_
  rintro ev w' ⟨rfl, hww⟩
  obtain rfl := hww
  have hn := wiF_b (n := room) (lo := 1) (hi := 6) (by omega)
  generalize wiF room 1 6 = k at *
  obtain ⟨k, rfl⟩ := Int.eq_ofNat_of_zero_le (show 0 ≤ k by omega)
  have HK := Lib.hid (show 1 ≤ k ∧ k ≤ 6 by omega)
  clear hn
  go_wp2_with fail
  refine (fnew_ok 4 k w (by omega) (by omega) (by have := HK.out; omega) (by have := HK.out; omega)).mono ?_
  rintro ev w1 ⟨ba, ra, rfl, hF⟩
  have HA := Lib.hid hF
  clear hF
  go_wp2_with fail
  refine (fnew_ok 4 k w1 (by omega) (by omega) (by have := HK.out; omega) (by have := HK.out; omega)).mono ?_
  rintro ev w2 ⟨bb, rb, rfl, hF⟩
  have HT := Lib.hid (show FbTwo w ba bb 4 k (fun _ => []) 0 (fun _ => []) 0 (.slice none 0 0) [] w2 from FbTwo.start HA.out hF rfl rfl)
  clear hF HA
  go_upto_block 0 with fail
  go_cut [10, 11, 12] from 48 to 71 (fun s10 _ _ wx => ∃ (ln cp : Nat) (ad : Option Addr) (L : List MsgV), s10 = .slice ad ln cp ∧ ln = L.length ∧ ln ≤ 12 ∧ (∀ m ∈ L, badM 4 m = false) ∧ FbTwo w ba bb 4 k (fun _ => []) 0 (fun _ => []) 0 (.slice ad ln cp) L wx)
  case first =>
    go_wp2_with fail
    go_loopw [10, 11] (fun s10 s11 wr => ∃ (i ln cp : Nat) (ad : Option Addr) (L : List MsgV), s11 = .int .i64 i ∧ s10 = .slice ad ln cp ∧ ln = L.length ∧ ln ≤ i ∧ i ≤ 12 ∧ (∀ m ∈ L, badM 4 m = false) ∧ FbTwo w ba bb 4 k (fun _ => []) 0 (fun _ => []) 0 (.slice ad ln cp) L wr) (fun _ s11 _ => 12 - (intOf s11).toNat)
    case atStart => exact ⟨0, 0, 0, none, [], rfl, rfl, rfl, by omega, by omega, fun m hm => (by cases hm), HT.out⟩
    case round =>
      clear HT
      obtain ⟨i, ln, cp, ad, L, rfl, rfl, hln, hli, hi12, hbad, ht⟩ := hrel
      have HT := Lib.hid ht
      have HLN := Lib.hid hln
      have HBAD := Lib.hid hbad
      clear ht hln hbad
      by_cases hin : i < nl
      · have k1 : decide (i < nl) = true := by simpa using hin
        have k2 : decide ((i : Int) < (nl : Int)) = true := by simp; omega
        by_cases hi6 : i < 12
        · have k3 : decide (i < 12) = true := by simpa using hi6
          have k4 : decide ((i : Int) < 12) = true := by simp; omega
          obtain ⟨m, hm⟩ : ∃ m, l[i]? = some m := ⟨_, List.getElem?_eq_getElem (by rw [HL.out.len]; exact hin)⟩
          have HFIT := Lib.hid (HL.out.fit m (List.mem_of_getElem? hm))
          obtain ⟨g, off, rfl, hg, hc⟩ := HEL.out (by omega)
          obtain ⟨m1, m2, m3, m4, m5, m6, m7, m8, m9, m10, m11, m12, m13⟩ := m
          have HBW := Lib.hid HT.out.below
          have a0 := (HBW.out.cell (p := ⟨g, _, none⟩) hg).trans (hc _ _ (flatM_at hm (c := 0) rfl))
          have a1 := (HBW.out.cell (p := ⟨g, _, none⟩) hg).trans (hc _ _ (flatM_at hm (c := 1) rfl))
          have a2 := (HBW.out.cell (p := ⟨g, _, none⟩) hg).trans (hc _ _ (flatM_at hm (c := 2) rfl))
          have a3 := (HBW.out.cell (p := ⟨g, _, none⟩) hg).trans (hc _ _ (flatM_at hm (c := 3) rfl))
          have a4 := (HBW.out.cell (p := ⟨g, _, none⟩) hg).trans (hc _ _ (flatM_at hm (c := 4) rfl))
          have a5 := (HBW.out.cell (p := ⟨g, _, none⟩) hg).trans (hc _ _ (flatM_at hm (c := 5) rfl))
          have a6 := (HBW.out.cell (p := ⟨g, _, none⟩) hg).trans (hc _ _ (flatM_at hm (c := 6) rfl))
          have a7 := (HBW.out.cell (p := ⟨g, _, none⟩) hg).trans (hc _ _ (flatM_at hm (c := 7) rfl))
          have a8 := (HBW.out.cell (p := ⟨g, _, none⟩) hg).trans (hc _ _ (flatM_at hm (c := 8) rfl))
          have a9 := (HBW.out.cell (p := ⟨g, _, none⟩) hg).trans (hc _ _ (flatM_at hm (c := 9) rfl))
          have a10 := (HBW.out.cell (p := ⟨g, _, none⟩) hg).trans (hc _ _ (flatM_at hm (c := 10) rfl))
          have a11 := (HBW.out.cell (p := ⟨g, _, none⟩) hg).trans (hc _ _ (flatM_at hm (c := 11) rfl))
          have a12 := (HBW.out.cell (p := ⟨g, _, none⟩) hg).trans (hc _ _ (flatM_at hm (c := 12) rfl))
          simp only [Nat.add_zero, ← Nat.add_assoc] at a0 a1 a2 a3 a4 a5 a6 a7 a8 a9 a10 a11 a12
          clear hg hm hc
          go_upto_region 11 with fail
          obtain ⟨h16, hh⟩ : ∃ h, h = wr.heap.size := ⟨_, rfl⟩
          have hb : Below wr.heap.size wr (wr.alloc (.cells #[.int .i64 m1, .int .i64 m2, .int .i64 m3, .int .i64 m4, .int .i64 m5, .int .i64 m6, .int .i64 m7, .int .u32 m8, .int .u32 m9, .int .u32 m10, .int .u32 m11, .int .u32 m12, .bool m13] 32)) := (Below.refl _ _).alloc (Nat.le_refl _) _
          have HX := Lib.hid (show (wr.alloc (.cells #[.int .i64 m1, .int .i64 m2, .int .i64 m3, .int .i64 m4, .int .i64 m5, .int .i64 m6, .int .i64 m7, .int .u32 m8, .int .u32 m9, .int .u32 m10, .int .u32 m11, .int .u32 m12, .bool m13] 32)).heap[h16]? = some (.cells #[.int .i64 m1, .int .i64 m2, .int .i64 m3, .int .i64 m4, .int .i64 m5, .int .i64 m6, .int .i64 m7, .int .u32 m8, .int .u32 m9, .int .u32 m10, .int .u32 m11, .int .u32 m12, .bool m13] 32 (0, 0)) from by rw [hh]; exact heap_alloc_new _ _)
          have HB := Lib.hid hb
          have HH := Lib.hid (show wr.heap.size ≤ h16 by omega)
          rw [← hh]
          clear hb hh HBW a0 a1 a2 a3 a4 a5 a6 a7 a8 a9 a10 a11 a12
          generalize wr.alloc (.cells #[.int .i64 m1, .int .i64 m2, .int .i64 m3, .int .i64 m4, .int .i64 m5, .int .i64 m6, .int .i64 m7, .int .u32 m8, .int .u32 m9, .int .u32 m10, .int .u32 m11, .int .u32 m12, .bool m13] 32) = w4 at *
          have hxq := HX.out
          have q0 := cell_of hxq 0
          have q1 := cell_of hxq 1
          have q2 := cell_of hxq 2
          have q3 := cell_of hxq 3
          have q4 := cell_of hxq 4
          have q5 := cell_of hxq 5
          have q6 := cell_of hxq 6
          have q7 := cell_of hxq 7
          have q8 := cell_of hxq 8
          have q9 := cell_of hxq 9
          have q10 := cell_of hxq 10
          have q11 := cell_of hxq 11
          have q12 := cell_of hxq 12
          simp only [List.getElem?_toArray, List.getElem?_cons_zero, List.getElem?_cons_succ] at q0 q1 q2 q3 q4 q5 q6 q7 q8 q9 q10 q11 q12
          have hlq := (Array.getElem?_eq_some_iff.1 hxq).1
          have z1 := frozen_of hxq 1
          go_wp2_with fail
          refine (Within_b m2 0 3 w4 (by omega) (by omega) (by omega) HFIT.out.core.1 HFIT.out.core.2).mono ?_
          rintro ev w' ⟨rfl, hww⟩
          obtain rfl := hww
          have hcb := wiF_b (n := m2) (lo := 0) (hi := 3) (by omega)
          generalize wiF m2 0 3 = c at *
          have HC := Lib.hid hcb
          clear hcb
          go_upto_region 12 with fail
          have HB5 := Lib.hid (show Below wr.heap.size wr (w4.setCell ⟨h16, 1, none⟩ (.int .i64 c)) from HB.out.setCell (p := ⟨h16, 1, none⟩) HH.out _)
          have HX5 := Lib.hid (show (w4.setCell ⟨h16, 1, none⟩ (.int .i64 c)).heap[h16]? = some (.cells #[.int .i64 m1, .int .i64 c, .int .i64 m3, .int .i64 m4, .int .i64 m5, .int .i64 m6, .int .i64 m7, .int .u32 m8, .int .u32 m9, .int .u32 m10, .int .u32 m11, .int .u32 m12, .bool m13] 32 (0, 0)) from (heap_setCell_at (k := 1) hxq (.int .i64 c)).trans rfl)
          clear z1 hxq hlq q0 q1 q2 q3 q4 q5 q6 q7 q8 q9 q10 q11 q12 HB HX
          generalize w4.setCell ⟨h16, 1, none⟩ (.int .i64 c) = w5 at *
          have hxq := HX5.out
          have q0 := cell_of hxq 0
          have q1 := cell_of hxq 1
          have q2 := cell_of hxq 2
          have q3 := cell_of hxq 3
          have q4 := cell_of hxq 4
          have q5 := cell_of hxq 5
          have q6 := cell_of hxq 6
          have q7 := cell_of hxq 7
          have q8 := cell_of hxq 8
          have q9 := cell_of hxq 9
          have q10 := cell_of hxq 10
          have q11 := cell_of hxq 11
          have q12 := cell_of hxq 12
          simp only [List.getElem?_toArray, List.getElem?_cons_zero, List.getElem?_cons_succ] at q0 q1 q2 q3 q4 q5 q6 q7 q8 q9 q10 q11 q12
          have hlq := (Array.getElem?_eq_some_iff.1 hxq).1
          go_wp2_with fail
          refine (mright_c (⟨m1, c, m3, m4, m5, m6, m7, m8, m9, m10, m11, m12, m13⟩ : MsgV) w5).mono ?_
          rintro ev w6 ⟨rfl, hb⟩
          clear hxq hlq q0 q1 q2 q3 q4 q5 q6 q7 q8 q9 q10 q11 q12
          have HX6 := Lib.hid ((hb.block _ (Array.getElem?_eq_some_iff.1 HX5.out).1).trans HX5.out)
          have HT6 := Lib.hid (HT.out.bel (HB5.out.trans (hb.mono HB5.out.size)))
          clear hb HB5 HX5 HT
          obtain ⟨rb', hrb⟩ : ∃ b, rightM (⟨m1, c, m3, m4, m5, m6, m7, m8, m9, m10, m11, m12, m13⟩ : MsgV) = b := ⟨_, rfl⟩
          rw [hrb]
          have HRB := Lib.hid hrb
          clear hrb
          cases rb' with
          | false =>
            go_wp2_with fail
            go_roundw
            case rel => exact ⟨i + 1, ln, cp, ad, L, by go_num, rfl, HLN.out, by omega, by omega, HBAD.out, HT6.out⟩
            case measure => simp [intOf] <;> omega
          | true =>
            go_upto_region 13 with fail
            have hxq := HX6.out
            have q0 := cell_of hxq 0
            have q1 := cell_of hxq 1
            have q2 := cell_of hxq 2
            have q3 := cell_of hxq 3
            have q4 := cell_of hxq 4
            have q5 := cell_of hxq 5
            have q6 := cell_of hxq 6
            have q7 := cell_of hxq 7
            have q8 := cell_of hxq 8
            have q9 := cell_of hxq 9
            have q10 := cell_of hxq 10
            have q11 := cell_of hxq 11
            have q12 := cell_of hxq 12
            simp only [List.getElem?_toArray, List.getElem?_cons_zero, List.getElem?_cons_succ] at q0 q1 q2 q3 q4 q5 q6 q7 q8 q9 q10 q11 q12
            have hlq := (Array.getElem?_eq_some_iff.1 hxq).1
            have hb7 : Below w6.heap.size w6 (w6.alloc (.cells #[.int .i64 m1, .int .i64 c, .int .i64 m3, .int .i64 m4, .int .i64 m5, .int .i64 m6, .int .i64 m7, .int .u32 m8, .int .u32 m9, .int .u32 m10, .int .u32 m11, .int .u32 m12, .bool m13] 32)) := (Below.refl _ _).alloc (Nat.le_refl _) _
            have HT7 := Lib.hid (HT6.out.bel hb7)
            have HCAT := Lib.hid (cat_new w6 (⟨m1, c, m3, m4, m5, m6, m7, m8, m9, m10, m11, m12, m13⟩ : MsgV))
            have HSZ := Lib.hid (show w.heap.size ≤ (w6.alloc (.cells #[.int .i64 m1, .int .i64 c, .int .i64 m3, .int .i64 m4, .int .i64 m5, .int .i64 m6, .int .i64 m7, .int .u32 m8, .int .u32 m9, .int .u32 m10, .int .u32 m11, .int .u32 m12, .bool m13] 32)).heap.size from HT7.out.below.size)
            clear hb7
            go_wp2_with (at_builtin; refine wpList_append_win _ rfl _ _ 44 rfl w.heap.size 32 i0 _ 13 80 Tryd.underlying44 HI.out HZ0.out HZ1.out HZ2.out rfl (by decide) (.slice ad ln cp) ln (flatM L) rfl (by have h := HT7.out.row; rw [← HLN.out] at h; exact h) ⟨w6.heap.size, 0, none⟩ 1 1 (MsgV.cs (⟨m1, c, m3, m4, m5, m6, m7, m8, m9, m10, m11, m12, m13⟩ : MsgV)) rfl rfl HCAT.out (cs_one _) (by omega) (by unfold maxLen; omega) (by omega) HSZ.out ?_; intro g8 off8 cap8 w8 hrow8 hgr8 hat8 hlt8; refine halt ?_)
            have HT8 := Lib.hid (show FbTwo w ba bb 4 k (fun _ => []) 0 (fun _ => []) 0 (.slice (some ⟨g8, off8, none⟩) (ln + 1) cap8) (L ++ [(⟨m1, c, m3, m4, m5, m6, m7, m8, m9, m10, m11, m12, m13⟩ : MsgV)]) w8 from HT7.out.grow (by rw [flatM_snoc, List.length_append, ← HLN.out]; exact hrow8) hgr8 fun g hg => by
              have hg : g8 = g := Option.some.inj hg
              subst hg
              rcases hat8 with e | e
              · exact .inl e
              · exact .inr (by rw [e]; exact Nat.le_refl _))
            have HBAD2 := Lib.hid (show ∀ m ∈ L ++ [(⟨m1, c, m3, m4, m5, m6, m7, m8, m9, m10, m11, m12, m13⟩ : MsgV)], badM 4 m = false from fun m hm => by
              rcases List.mem_append.1 hm with h | h
              · exact HBAD.out m h
              · rw [List.mem_singleton.1 h]
                unfold badM
                rw [HRB.out]
                have := HC.out
                simp
                omega)
            clear hrow8 hgr8 hat8 hlt8 hxq hlq q0 q1 q2 q3 q4 q5 q6 q7 q8 q9 q10 q11 q12
            have HLN2 := Lib.hid (show ln + 1 = (L ++ [(⟨m1, c, m3, m4, m5, m6, m7, m8, m9, m10, m11, m12, m13⟩ : MsgV)]).length by rw [List.length_append, ← HLN.out]; rfl)
            obtain ⟨l2, hl2⟩ : ∃ l2, l2 = ln + 1 := ⟨_, rfl⟩
            have hl3 : l2 ≤ i + 1 := by omega
            rw [← hl2] at HT8 HLN2 ⊢
            clear hl2
            unfold Halt
            go_wp2_with fail
            go_roundw
            case rel => exact ⟨i + 1, l2, cap8, _, L ++ [(⟨m1, c, m3, m4, m5, m6, m7, m8, m9, m10, m11, m12, m13⟩ : MsgV)], by go_num, rfl, HLN2.out, hl3, by omega, HBAD2.out, HT8.out⟩
            case measure => simp [intOf] <;> omega
        · have k3 : decide (i < 12) = false := by simpa using hi6
          have k4 : decide ((i : Int) < 12) = false := by simp; omega
          have hl12 : ln ≤ 12 := by omega
          go_wp2_with fail
          go_meet
          case rel => exact ⟨ln, cp, ad, L, rfl, HLN.out, hl12, HBAD.out, HT.out⟩
      · have k1 : decide (i < nl) = false := by simpa using hin
        have k2 : decide ((i : Int) < (nl : Int)) = false := by simp; omega
        have hl12 : ln ≤ 12 := by omega
        go_wp2_with fail
        go_meet
        case rel => exact ⟨ln, cp, ad, L, rfl, HLN.out, hl12, HBAD.out, HT.out⟩
  case rest =>
    obtain ⟨ln, cp, ad, L, rfl, hln, hl12, hbad, ht⟩ := hcut
    have HT := Lib.hid ht
    have HLN := Lib.hid hln
    have HBAD := Lib.hid hbad
    clear ht hln hbad
    generalize wc = w3 at *
    have HN0 := Lib.hid (show 0 ≤ 12 by omega)
    go_upto_block 2 with fail
    go_cut [13] from 72 to 87 (fun s13 wx => ∃ n : Nat, s13 = .int .i64 n ∧ n ≤ ln ∧ (∀ j, j < n → fullB k (fun _ => []) L j = false) ∧ (n < ln → fullB k (fun _ => []) L n = true) ∧ FbTwo w ba bb 4 k (fun _ => []) 0 (addM (fun _ => []) (L.take n)) n (.slice ad ln cp) L wx)
    case first =>
      go_wp2_with fail
      go_loopw [13] (fun s13 wr => ∃ n : Nat, s13 = .int .i64 n ∧ n ≤ ln ∧ (∀ j, j < n → fullB k (fun _ => []) L j = false) ∧ LeF (addM (fun _ => []) (L.take n)) k ∧ FbTwo w ba bb 4 k (fun _ => []) 0 (addM (fun _ => []) (L.take n)) n (.slice ad ln cp) L wr) (fun s13 _ => ln - (intOf s13).toNat)
      case atStart => exact ⟨0, rfl, by omega, fun j hj => absurd hj (by omega), LeF.nil k, HT.out⟩
      case round =>
        clear HT HN0
        obtain ⟨n, rfl, hnl', hful, hle, ht⟩ := hrel
        have HT := Lib.hid ht
        have HFU := Lib.hid hful
        have HLE := Lib.hid hle
        clear ht hful hle
        by_cases hn : n < ln
        · have k1 : decide (n < ln) = true := by simpa using hn
          have k2 : decide ((n : Int) < (ln : Int)) = true := by simp; omega
          obtain ⟨m, hm⟩ : ∃ m, L[n]? = some m := ⟨_, List.getElem?_eq_getElem (by rw [← HLN.out]; exact hn)⟩
          have HMB := Lib.hid (HBAD.out m (List.mem_of_getElem? hm))
          have HM := Lib.hid hm
          obtain ⟨g, off, cp', hvf, hcap, _, hg, hc⟩ := HT.out.row.form (by rw [← HLN.out]; omega)
          simp only [Value.slice.injEq] at hvf
          obtain ⟨rfl, -, rfl⟩ := hvf
          obtain ⟨m1, m2, m3, m4, m5, m6, m7, m8, m9, m10, m11, m12, m13⟩ := m
          have a0 := hc _ _ (flatM_at HM.out (c := 0) rfl)
          have a1 := hc _ _ (flatM_at HM.out (c := 1) rfl)
          have a2 := hc _ _ (flatM_at HM.out (c := 2) rfl)
          have a3 := hc _ _ (flatM_at HM.out (c := 3) rfl)
          have a4 := hc _ _ (flatM_at HM.out (c := 4) rfl)
          have a5 := hc _ _ (flatM_at HM.out (c := 5) rfl)
          have a6 := hc _ _ (flatM_at HM.out (c := 6) rfl)
          have a7 := hc _ _ (flatM_at HM.out (c := 7) rfl)
          have a8 := hc _ _ (flatM_at HM.out (c := 8) rfl)
          have a9 := hc _ _ (flatM_at HM.out (c := 9) rfl)
          have a10 := hc _ _ (flatM_at HM.out (c := 10) rfl)
          have a11 := hc _ _ (flatM_at HM.out (c := 11) rfl)
          have a12 := hc _ _ (flatM_at HM.out (c := 12) rfl)
          simp only [Nat.add_zero, ← Nat.add_assoc] at a0 a1 a2 a3 a4 a5 a6 a7 a8 a9 a10 a11 a12
          clear hg hc hm hcap
          obtain ⟨Fn, hFn⟩ : ∃ Fn, Fn = addM (fun _ => []) (L.take n) := ⟨_, rfl⟩
          have HFN := Lib.hid hFn
          rw [← hFn] at HT HLE
          clear hFn
          go_wp2_with fail
          refine (two_sendB A w bb ba n 0 4 k k rfl Fn (fun _ => []) _ L [⟨m1, m2, m3, m4, m5, m6, m7, m8, m9, m10, m11, m12, m13⟩] wr HT.out.swap HS.out (by simp) HLE.out (by have := HK.out; omega)).mono ?_
          rintro ev w4 ⟨rfl, ht⟩
          clear a0 a1 a2 a3 a4 a5 a6 a7 a8 a9 a10 a11 a12
          have hone := whole_one (k := k) HM.out HMB.out
          rw [← HFN.out] at hone
          obtain ⟨fb, hfb⟩ : ∃ fb, fullB k (fun _ => []) L n = fb := ⟨_, rfl⟩
          rw [hfb] at hone
          have HFB := Lib.hid hfb
          clear hfb
          cases fb with
          | true =>
            have hone : fitsE 4 k Fn [⟨m1, m2, m3, m4, m5, m6, m7, m8, m9, m10, m11, m12, m13⟩] = .wrap fsT 0 (.sent 5) := hone
            rw [(send_off hone).1, (send_off hone).2, Nat.add_zero] at ht
            rw [hone, show (ErrT.wrap fsT 0 (.sent 5)).val A = .iface 75 (.agg #[.string fsT, .int .i64 0, .iface 116 (.pointer (some (A 5)))]) from rfl]
            have HT2 := Lib.hid (show FbTwo w ba bb 4 k (fun _ => []) 0 (addM (fun _ => []) (L.take n)) n _ L w4 from by rw [← HFN.out]; exact ht.swap)
            clear ht hone
            go_wp2_with fail
            go_meet
            case rel => exact ⟨n, rfl, hnl', HFU.out, fun _ => HFB.out, HT2.out⟩
          | false =>
            have hone : fitsE 4 k Fn [⟨m1, m2, m3, m4, m5, m6, m7, m8, m9, m10, m11, m12, m13⟩] = .nil := hone
            have hnx := whole_next (k := k) HM.out (by rw [← HFN.out]; exact hone)
            rw [← HFN.out] at hnx
            have hl2 := HLE.out.send 4 [⟨m1, m2, m3, m4, m5, m6, m7, m8, m9, m10, m11, m12, m13⟩]
            rw [hnx] at ht hl2
            rw [(send_one hone).2] at ht
            rw [hone, show ErrT.nil.val A = .nilIface from rfl]
            have HT2 := Lib.hid ht.swap
            have HL2 := Lib.hid hl2
            clear ht hone hnx hl2
            go_wp2_with fail
            go_roundw
            case rel => exact ⟨n + 1, by go_num, by omega, fun j hj => by
              by_cases hjn : j = n
              · rw [hjn]; exact HFB.out
              · exact HFU.out j (by omega), HL2.out, HT2.out⟩
            case measure => simp [intOf] <;> omega
        · have k1 : decide (n < ln) = false := by simpa using hn
          have k2 : decide ((n : Int) < (ln : Int)) = false := by simp; omega
          go_wp2_with fail
          go_meet
          case rel => exact ⟨n, rfl, hnl', HFU.out, fun h => absurd h hn, by have h := HT.out; exact h⟩
    case rest =>
      clear HT HN0
      obtain ⟨n, rfl, hnl', hful, hfl, ht⟩ := hcut
      have HFU := Lib.hid hful
      have HFL := Lib.hid hfl
      have HT := Lib.hid ht
      clear hful hfl ht
      generalize wc = w4 at *
      go_wp2_with fail
      refine (two_sendR A w ba bb 0 n 4 k k rfl (fun _ => []) _ _ L w4 HT.out HS.out (by rw [← HLN.out]; omega) (LeF.nil k) (by have := HK.out; omega)).mono ?_
      rintro ev w5 ⟨rfl, ht⟩
      by_cases hn : n < ln
      · have k1 : ((n : Int) == (ln : Int)) = false := by simp; omega
        have hfe : fitsE 4 k (fun _ => []) L = .wrap fsT n (.sent 5) := fits_full (by rw [← HLN.out]; exact hn) (whole_bad HBAD.out) HFU.out (HFL.out hn)
        rw [(send_off hfe).1, (send_off hfe).2, Nat.add_zero] at ht
        have HT5 := Lib.hid ht
        rw [hfe, show (ErrT.wrap fsT n (.sent 5)).val A = .iface 75 (.agg #[.string fsT, .int .i64 n, .iface 116 (.pointer (some (A 5)))]) from rfl]
        clear ht hfe HT
        go_wp2_with fail
        refine (fbs_all w ba 0 4 k _ [] w5 HT5.out.sa (by omega)).mono ?_
        rintro ev w6 ⟨rfl, hb⟩
        have HT6 := Lib.hid (HT5.out.bel hb)
        clear hb HT5
        go_wp2_with fail
        change Calls Tryd.prog _ #[(ErrT.wrap fsT n (.sent 5)).val A, .int .i64 (6 : Int), .string fsT, .int .i64 (n : Int)] _ _
        refine (is_c A (.wrap fsT n (.sent 5)) 6 fsT n w6 (HS.out.below HT6.out.below) ⟨rfl, show (5 : Nat) < 10 by omega⟩ (by omega) (by omega)).mono ?_
        rintro ev w7 ⟨rfl, hb⟩
        rw [show isK (.wrap fsT n (.sent 5)) 6 fsT n = true by simp [isK, ErrT.code]]
        have HT7 := Lib.hid (HT6.out.bel hb)
        clear hb HT6
        go_wp2_with fail
        refine (fabricRuns A w7 (HS.out.below HT7.out.below)).mono ?_
        rintro ev w8 ⟨rfl, hb⟩
        have HT8 := Lib.hid (HT7.out.bel hb)
        clear hb HT7
        go_wp2_with fail
        go_ret
        exact ⟨rfl, HT8.out.below⟩
      · have k1 : ((n : Int) == (ln : Int)) = true := by simp; omega
        have hnn : n = ln := by omega
        have hfe : fitsE 4 k (fun _ => []) L = .nil := fits_nil (whole_bad HBAD.out) (by rw [← HLN.out, ← hnn]; exact HFU.out)
        have hse : sendF 4 k (fun _ => []) L = addM (fun _ => []) L ∧ sentN 4 k (fun _ => []) L = L.length := by unfold sendF sentN; rw [hfe]; exact ⟨rfl, rfl⟩
        obtain ⟨F, hF⟩ : ∃ F, F = addM (fun _ => []) L := ⟨_, rfl⟩
        rw [hse.1, hse.2, Nat.zero_add, ← HLN.out, hnn, show L.take ln = L by rw [HLN.out]; exact List.take_length, ← hF] at ht
        have hle : LeF F k := by
          have h := (LeF.nil k).send 4 L
          rw [hse.1, ← hF] at h
          exact h
        have HLE := Lib.hid hle
        have HT5 := Lib.hid ht
        rw [hfe, show ErrT.nil.val A = .nilIface from rfl]
        have hk6 : k ≤ 6 := HK.out.2
        rw [hnn]
        clear ht hfe hse hF hle HT hnn k1 HFU HFL
        have k1 : ((ln : Int) == (ln : Int)) = true := by simp
        go_wp2_with fail
        go_loopw [15] (fun s15 wr => ∃ p : Nat, s15 = .int .i64 p ∧ p ≤ 4 ∧ FbTwo w ba bb 4 k F ln F ln (.slice ad ln cp) L wr) (fun s15 _ => 4 - (intOf s15).toNat)
        case atStart => exact ⟨0, rfl, by omega, HT5.out⟩
        case round =>
          clear HT5
          obtain ⟨p, rfl, hp4, ht⟩ := hrel
          have HT := Lib.hid ht
          clear ht
          by_cases hp : p < 4
          · have j1 : decide (p < 4) = true := by simpa using hp
            have j2 : decide ((p : Int) < 4) = true := by simp; omega
            go_wp2_with fail
            go_loopw [16] (fun s16 wr => ∃ c : Nat, s16 = .int .i64 c ∧ c ≤ 4 ∧ FbTwo w ba bb 4 k F ln F ln (.slice ad ln cp) L wr) (fun s16 _ => 4 - (intOf s16).toNat)
            case atStart => exact ⟨0, rfl, by omega, HT.out⟩
            case round =>
              clear HT
              obtain ⟨c, rfl, hc4, ht⟩ := hrel
              have HT := Lib.hid ht
              clear ht
              by_cases hc : c < 4
              · have j3 : decide (c < 4) = true := by simpa using hc
                have j4 : decide ((c : Int) < 4) = true := by simp; omega
                obtain ⟨wl, hwl⟩ : ∃ wl, lenP 4 F p c = wl := ⟨_, rfl⟩
                have hwb := lenP_b (n := 4) (p := p) (c := c) HLE.out
                rw [hwl] at hwb
                obtain ⟨wl, rfl⟩ := Int.eq_ofNat_of_zero_le hwb.1
                have hw6 : wl ≤ 6 := by omega
                have HWL := Lib.hid hwl
                clear hwl hwb
                go_wp2_with fail
                refine (fbs_len w ba ln 4 k p c F [] wr HT.out.sa).mono ?_
                rintro ev w6 ⟨rfl, hb⟩
                rw [HWL.out]
                have HT6 := Lib.hid (HT.out.bel hb)
                clear hb HT
                go_wp2_with fail
                refine (fbs_len w bb ln 4 k p c F [] w6 HT6.out.sb).mono ?_
                rintro ev w7 ⟨rfl, hb⟩
                rw [HWL.out]
                have HT7 := Lib.hid (HT6.out.bel hb)
                clear hb HT6
                go_wp2_with fail
                go_loopw [17] (fun s17 wr => ∃ i : Nat, s17 = .int .i64 i ∧ i ≤ wl ∧ FbTwo w ba bb 4 k F ln F ln (.slice ad ln cp) L wr) (fun s17 _ => wl - (intOf s17).toNat)
                case atStart => exact ⟨0, rfl, by omega, HT7.out⟩
                case round =>
                  clear HT7
                  obtain ⟨i, rfl, hi6, ht⟩ := hrel
                  have HT := Lib.hid ht
                  clear ht
                  go_wp2_with fail
                  refine (fbs_len w ba ln 4 k p c F [] wr HT.out.sa).mono ?_
                  rintro ev w6 ⟨rfl, hb⟩
                  rw [HWL.out]
                  have HT6 := Lib.hid (HT.out.bel hb)
                  clear hb HT
                  by_cases hi : i < wl
                  · have j5 : decide (i < wl) = true := by simpa using hi
                    have j6 : decide ((i : Int) < (wl : Int)) = true := by simp; omega
                    obtain ⟨M, hM⟩ : ∃ M, peekP 4 F p c i = M := ⟨_, rfl⟩
                    have HPK := Lib.hid hM
                    clear hM
                    obtain ⟨M, mb⟩ := M
                    obtain ⟨x1, x2, x3, x4, x5, x6, x7, x8, x9, x10, x11, x12, x13⟩ := M
                    go_wp2_with fail
                    refine (fbs_peek w ba ln 4 k p c i F [] w6 HT6.out.sa).mono ?_
                    rintro ev w7 ⟨rfl, hb⟩
                    rw [HPK.out]
                    simp only [MsgV.v]
                    have HT7 := Lib.hid (HT6.out.bel hb)
                    clear hb HT6
                    go_upto_region 34 with fail
                    obtain ⟨h18, hh⟩ : ∃ h, h = w7.heap.size := ⟨_, rfl⟩
                    have hb : Below w7.heap.size w7 (w7.alloc (.cells #[.int .i64 x1, .int .i64 x2, .int .i64 x3, .int .i64 x4, .int .i64 x5, .int .i64 x6, .int .i64 x7, .int .u32 x8, .int .u32 x9, .int .u32 x10, .int .u32 x11, .int .u32 x12, .bool x13] 32)) := (Below.refl _ _).alloc (Nat.le_refl _) _
                    have HY8 := Lib.hid (show (w7.alloc (.cells #[.int .i64 x1, .int .i64 x2, .int .i64 x3, .int .i64 x4, .int .i64 x5, .int .i64 x6, .int .i64 x7, .int .u32 x8, .int .u32 x9, .int .u32 x10, .int .u32 x11, .int .u32 x12, .bool x13] 32)).heap[h18]? = some (.cells #[.int .i64 x1, .int .i64 x2, .int .i64 x3, .int .i64 x4, .int .i64 x5, .int .i64 x6, .int .i64 x7, .int .u32 x8, .int .u32 x9, .int .u32 x10, .int .u32 x11, .int .u32 x12, .bool x13] 32 (0, 0)) from by rw [hh]; exact heap_alloc_new _ _)
                    have HT8 := Lib.hid (HT7.out.bel hb)
                    rw [← hh]
                    clear hb hh HT7
                    generalize w7.alloc (.cells #[.int .i64 x1, .int .i64 x2, .int .i64 x3, .int .i64 x4, .int .i64 x5, .int .i64 x6, .int .i64 x7, .int .u32 x8, .int .u32 x9, .int .u32 x10, .int .u32 x11, .int .u32 x12, .bool x13] 32) = w8 at *
                    go_wp2_with fail
                    refine (fbs_peek w bb ln 4 k p c i F [] w8 HT8.out.sb).mono ?_
                    rintro ev w9 ⟨rfl, hb⟩
                    rw [HPK.out]
                    simp only [MsgV.v]
                    have HT9 := Lib.hid (HT8.out.bel hb)
                    have HY9 := Lib.hid ((hb.block _ (Array.getElem?_eq_some_iff.1 HY8.out).1).trans HY8.out)
                    clear hb HT8 HY8
                    go_upto_region 35 with fail
                    obtain ⟨h20, hh⟩ : ∃ h, h = w9.heap.size := ⟨_, rfl⟩
                    have hb : Below w9.heap.size w9 (w9.alloc (.cells #[.int .i64 x1, .int .i64 x2, .int .i64 x3, .int .i64 x4, .int .i64 x5, .int .i64 x6, .int .i64 x7, .int .u32 x8, .int .u32 x9, .int .u32 x10, .int .u32 x11, .int .u32 x12, .bool x13] 32)) := (Below.refl _ _).alloc (Nat.le_refl _) _
                    have HX10 := Lib.hid (show (w9.alloc (.cells #[.int .i64 x1, .int .i64 x2, .int .i64 x3, .int .i64 x4, .int .i64 x5, .int .i64 x6, .int .i64 x7, .int .u32 x8, .int .u32 x9, .int .u32 x10, .int .u32 x11, .int .u32 x12, .bool x13] 32)).heap[h20]? = some (.cells #[.int .i64 x1, .int .i64 x2, .int .i64 x3, .int .i64 x4, .int .i64 x5, .int .i64 x6, .int .i64 x7, .int .u32 x8, .int .u32 x9, .int .u32 x10, .int .u32 x11, .int .u32 x12, .bool x13] 32 (0, 0)) from by rw [hh]; exact heap_alloc_new _ _)
                    have HT10 := Lib.hid (HT9.out.bel hb)
                    have HY10 := Lib.hid ((hb.block _ (Array.getElem?_eq_some_iff.1 HY9.out).1).trans HY9.out)
                    rw [← hh]
                    clear hb hh HT9 HY9
                    generalize w9.alloc (.cells #[.int .i64 x1, .int .i64 x2, .int .i64 x3, .int .i64 x4, .int .i64 x5, .int .i64 x6, .int .i64 x7, .int .u32 x8, .int .u32 x9, .int .u32 x10, .int .u32 x11, .int .u32 x12, .bool x13] 32) = w10 at *
                    have hxq := HX10.out
                    have q0 := cell_of hxq 0
                    have q1 := cell_of hxq 1
                    have q2 := cell_of hxq 2
                    have q3 := cell_of hxq 3
                    have q4 := cell_of hxq 4
                    have q5 := cell_of hxq 5
                    have q6 := cell_of hxq 6
                    have q7 := cell_of hxq 7
                    have q8 := cell_of hxq 8
                    have q9 := cell_of hxq 9
                    have q10 := cell_of hxq 10
                    have q11 := cell_of hxq 11
                    have q12 := cell_of hxq 12
                    simp only [List.getElem?_toArray, List.getElem?_cons_zero, List.getElem?_cons_succ] at q0 q1 q2 q3 q4 q5 q6 q7 q8 q9 q10 q11 q12
                    have hlq := (Array.getElem?_eq_some_iff.1 hxq).1
                    have hxr := HY10.out
                    have r0 := cell_of hxr 0
                    have r1 := cell_of hxr 1
                    have r2 := cell_of hxr 2
                    have r3 := cell_of hxr 3
                    have r4 := cell_of hxr 4
                    have r5 := cell_of hxr 5
                    have r6 := cell_of hxr 6
                    have r7 := cell_of hxr 7
                    have r8 := cell_of hxr 8
                    have r9 := cell_of hxr 9
                    have r10 := cell_of hxr 10
                    have r11 := cell_of hxr 11
                    have r12 := cell_of hxr 12
                    simp only [List.getElem?_toArray, List.getElem?_cons_zero, List.getElem?_cons_succ] at r0 r1 r2 r3 r4 r5 r6 r7 r8 r9 r10 r11 r12
                    have hlr := (Array.getElem?_eq_some_iff.1 hxr).1
                    have heq := fun w => run_eqMs x1 x2 x3 x4 x5 x6 x7 x8 x9 x10 x11 x12 x1 x2 x3 x4 x5 x6 x7 x8 x9 x10 x11 x12 x13 x13 w
                    rw [(eqM_iff _ _).2 rfl] at heq
                    go_wp2_with fail
                    go_roundw
                    case rel => exact ⟨i + 1, by go_num, by omega, HT10.out⟩
                    case measure => simp [intOf] <;> omega
                  · have j5 : decide (i < wl) = false := by simpa using hi
                    have j6 : decide ((i : Int) < (wl : Int)) = false := by simp; omega
                    go_wp2_with fail
                    go_roundw
                    case rel => exact ⟨c + 1, by go_num, by omega, HT6.out⟩
                    case measure => simp [intOf] <;> omega
              · have j3 : decide (c < 4) = false := by simpa using hc
                have j4 : decide ((c : Int) < 4) = false := by simp; omega
                go_wp2_with fail
                go_roundw
                case rel => exact ⟨p + 1, by go_num, by omega, HT.out⟩
                case measure => simp [intOf] <;> omega
          · have j1 : decide (p < 4) = false := by simpa using hp
            have j2 : decide ((p : Int) < 4) = false := by simp; omega
            go_wp2_with fail
            refine (fbs_all w ba ln 4 k F [] wr HT.out.sa (by omega)).mono ?_
            rintro ev w6 ⟨rfl, hb⟩
            have HT6 := Lib.hid (HT.out.bel hb)
            clear hb HT
            go_wp2_with fail
            refine (fabricRuns A w6 (HS.out.below HT6.out.below)).mono ?_
            rintro ev w7 ⟨rfl, hb⟩
            have HT7 := Lib.hid (HT6.out.bel hb)
            clear hb HT6
            go_wp2_with fail
            go_ret
            exact ⟨rfl, HT7.out.below⟩

end Go.Proofs.YtbefkkefglkleaaDoor
