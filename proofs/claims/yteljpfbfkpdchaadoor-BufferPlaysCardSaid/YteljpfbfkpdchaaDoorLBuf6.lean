/- BufferPlays: true; no condition but what a start gives. -/
import Derived.Test.YteljpfbfkpdchaaDoorLBuf5
import Derived.Test.YteljpfbfkpdchaaDoorAsks8
namespace Go.Proofs.YteljpfbfkpdchaaDoor
open Go.RowKit Go.Extern.Stop Go.Stop Go.Extern

set_option maxRecDepth 100000 in
set_option maxHeartbeats 8000000 in
theorem bufferPlays_no (A : Nat → Addr) (n : Int) (v1 : Value) (n1 : Nat) (f : Nat → Nat → Int) (w : World) (hs : SentAt w A) (hn : n < 1 ∨ 8 < n) (h1 : ReqsAt ks8 3 w v1 n1 f) :
    Calls Tryd.prog 4 #[.int .i64 n, v1] w (TruePost w) := by
  obtain ⟨p1, cap1, rfl, _⟩ := h1.form
  clear h1
  have hE : newE n = .wrap bnT n (.sent 0) := by unfold newE; rw [if_neg (by omega)]
  have HE := Lib.hid (show (newE n).val A = .iface 63 (.agg #[.string bnT, .int .i64 n, (ErrT.sent 0).val A]) by rw [hE]; rfl)
  have HEE := Lib.hid hE
  clear hE
  go_enter Tryd.func4, Tryd.ntmps4
  go_wp2_with fail
  refine (bnew_bad A n w hs hn).mono ?_
  rintro ev w' ⟨rfl, rfl⟩
  rw [HE.out]
  go_wp2_with fail
  refine (rnew_bad n w hn).mono ?_
  rintro ev w' ⟨rfl, rfl⟩
  go_wp2_with fail
  rw [← HE.out]
  refine (is_c A (newE n) 1 bnT n w hs (by rw [HEE.out]; exact ⟨rfl, show (0 : Nat) < 10 by omega⟩) (by omega) (by omega)).mono ?_
  rintro ev w2 ⟨rfl, hb2⟩
  rw [show isK (newE n) 1 bnT n = true by rw [HEE.out]; simp [isK, ErrT.code], HE.out]
  have hs2 := hs.below hb2
  go_wp2_with fail
  go_loopw [9] (fun s9 wr => s9 = .int .i64 0 ∧ wr = w2) (fun _ _ => 0)
  case atStart => exact ⟨rfl, rfl⟩
  case round =>
    obtain ⟨rfl, rfl⟩ := hrel
    by_cases h0 : 0 < n1
    · go_wp2_with fail
      refine (bufferRuns A _ hs2).mono ?_
      rintro ev w4 ⟨rfl, hb4⟩
      go_wp2_with fail
      go_ret
      exact ⟨rfl, hb2.trans (hb4.mono hb2.size)⟩
    · go_wp2_with fail
      refine (bufferRuns A _ hs2).mono ?_
      rintro ev w4 ⟨rfl, hb4⟩
      go_wp2_with fail
      go_ret
      exact ⟨rfl, hb2.trans (hb4.mono hb2.size)⟩

set_option maxRecDepth 100000 in
set_option maxHeartbeats 8000000 in
theorem bufferPlays_ok (A : Nat → Addr) (n : Int) (v1 : Value) (n1 : Nat) (f : Nat → Nat → Int) (w : World) (hs : SentAt w A) (hn : 1 ≤ n ∧ n ≤ 8) (h1 : ReqsAt ks8 3 w v1 n1 f) :
    Calls Tryd.prog 4 #[.int .i64 n, v1] w (TruePost w) := by
  obtain ⟨p1, cap1, rfl, hel⟩ := h1.form
  have HEL := Lib.hid hel
  have hn1 := h1.len
  unfold maxLen at hn1
  clear hel h1
  have HS := Lib.hid hs
  clear hs
  go_enter Tryd.func4, Tryd.ntmps4
  go_wp2_with fail
  refine (bnew_ok n w hn.1 hn.2).mono ?_
  rintro ev w1 ⟨rfl, hA1, hB1⟩
  go_wp2_with fail
  refine (rnew_ok n w1 hn.1 hn.2).mono ?_
  rintro ev w2 ⟨rfl, hA2, hB2⟩
  have HP2 := Lib.hid (PlAt.mk (w := w) (hA1.below hB2) hA2 (fun g hg => by simp [Value.ownBlock] at hg) (fun g hg => by simp [Value.ownBlock] at hg) ⟨Nat.le_refl _, hA1.lt⟩ (hB1.trans (hB2.mono hB1.size)))
  generalize w1.heap.size = b2 at *
  clear hA1 hA2 hB1 hB2
  go_wp2_with fail
  change Calls Tryd.prog _ #[ErrT.nil.val A, _, _, _] _ _
  refine (is_c A .nil 0 bnT n _ (HS.out.below HP2.out.bel) trivial (by omega) (by omega)).mono ?_
  rintro ev w3 ⟨rfl, hb3⟩
  rw [show isK .nil 0 bnT n = true from rfl]
  have HP3 := Lib.hid (HP2.out.below hb3)
  clear hb3 HP2
  go_wp2_with fail
  go_loopw [9] (fun s9 wr => ∃ (i : Nat) (v1 v2 : Value) (L : List (Int × Int)), i ≤ 60 ∧ s9 = .int .i64 i ∧ (L.length : Int) ≤ n ∧ PlAt w wr w.heap.size b2 n v1 v2 L L) (fun s9 _ => 60 - (intOf s9).toNat)
  case atStart => exact ⟨0, _, _, [], by omega, rfl, by simp; omega, HP3.out⟩
  case round =>
    clear HP3
    obtain ⟨i, v1, v2, L, hi, rfl, hLn, hP⟩ := hrel
    have HP := Lib.hid hP
    clear hP
    by_cases hi1 : i < n1
    · by_cases hi60 : i < 60
      · obtain ⟨ba, oa, rfl, hba, hca⟩ := HEL.out i hi1
        have a0 := (HP.out.bel.cell (p := ⟨ba, _, none⟩) hba).trans (hca 0 (by omega))
        have a1 := (HP.out.bel.cell (p := ⟨ba, _, none⟩) hba).trans (hca 1 (by omega))
        have a2 := (HP.out.bel.cell (p := ⟨ba, _, none⟩) hba).trans (hca 2 (by omega))
        simp only [ks8, Nat.add_zero] at a0 a1 a2
        generalize f i 0 = kd at *
        generalize f i 1 = a at *
        generalize f i 2 = x at *
        have hq := heap_alloc_new wr (.cells #[.int .i64 kd, .int .i64 a, .int .u32 x] 42)
        have hbq : Below wr.heap.size wr (wr.alloc (.cells #[.int .i64 kd, .int .i64 a, .int .u32 x] 42)) := (Below.refl _ _).alloc (Nat.le_refl _) _
        have HPQ := Lib.hid (HP.out.below hbq)
        have hfq := HP.out.far (Nat.le_refl wr.heap.size)
        have hLb : L.length ≤ 8 := by omega
        clear hca hbq
        by_cases k1 : kd = 1
        · subst k1
          go_wp2_with fail
          generalize wr.alloc (.cells #[.int .i64 1, .int .i64 a, .int .u32 x] 42) = wq at hq HPQ ⊢
          have hql := (Array.getElem?_eq_some_iff.1 hq).1
          refine (bpush_c A w.heap.size v1 n a x L wq (HS.out.below HPQ.out.bel) HPQ.out.buf (by omega)).mono ?_
          rintro ev w4 ⟨rfl, v1', hA4, hM4, hO4⟩
          have hq4 := (hM4.block wr.heap.size hql fun h => by
            rcases h with h | h
            · exact hfq.1 h
            · exact hfq.2.2.1 h).trans hq
          have HP4 := Lib.hid (HPQ.out.one hA4 hM4 hO4)
          have c1 := cell_of hq4 1
          have c2 := cell_of hq4 2
          simp only [List.getElem?_toArray, List.getElem?_cons_zero, List.getElem?_cons_succ] at c1 c2
          have hEW := Lib.hid (pushE_wf n a L)
          have hEI := Lib.hid (pushE_is n a L)
          have hEO := Lib.hid (pushE_only n a L)
          have hEB := Lib.hid (pushK_b n a L)
          clear hA4 hM4 hO4 hq
          generalize pushE n L a = pe at *
          go_wp2_with fail
          have hql4 := (Array.getElem?_eq_some_iff.1 hq4).1
          refine (rpush_c b2 v2 n a x L w4 HP4.out.ref (by omega)).mono ?_
          rintro ev w5 ⟨rfl, v2', hA5, hM5, hO5⟩
          have hq5 := (hM5.block wr.heap.size hql4 fun h => by
            rcases h with h | h
            · exact hfq.2.1 h
            · exact hfq.2.2.2 h).trans hq4
          have HP5 := Lib.hid (HP4.out.two hA5 hM5 hO5)
          have hLn5 := pushL_len (a := a) (x := x) hLn
          have c1 := cell_of hq5 1
          simp only [List.getElem?_toArray, List.getElem?_cons_zero, List.getElem?_cons_succ] at c1
          clear hA5 hM5 hO5 hq4 c2
          generalize pushK n L a = pk at *
          generalize pushL n L a x = L5 at *
          go_wp2_with fail
          refine (is_c A pe pk bpT a w5 (HS.out.below HP5.out.bel) hEW.out hEB.out.1 hEB.out.2).mono ?_
          rintro ev w6 ⟨rfl, hb6⟩
          rw [hEI.out]
          have HP6 := Lib.hid (HP5.out.below hb6)
          clear hb6 c1 hq5
          go_wp2_with fail
          refine (only_c A pe pk w6 (HS.out.below HP6.out.bel) hEW.out hEB.out.1 hEB.out.2).mono ?_
          rintro ev w9 ⟨rfl, hb9⟩
          rw [hEO.out]
          have HT := Lib.hid (HP6.out.below hb9)
          clear hb9 HP6 HP5 HP4 HPQ
          go_wp2_with fail
          have hL9 : L5.length ≤ 8 := by omega
          refine (blist_c w.heap.size v1' n L5 _ HT.out.buf (by omega)).mono ?_
          rintro ev w10 ⟨u10, rfl, hu10, hb10⟩
          obtain ⟨ad, capu, rfl⟩ := hu10.len
          have HP10 := Lib.hid (HT.out.below hb10)
          have hG10 := GotAt.start hu10
          have hform := fun h => hu10.form h
          obtain ⟨ad2, cap2, hv2⟩ := HT.out.ref.row.len
          have r1 := cell_of HP10.out.ref.blk 1
          simp only [List.getElem?_toArray, List.getElem?_cons_zero, List.getElem?_cons_succ] at r1
          rw [hv2] at r1
          have HG10 := Lib.hid hG10
          have HFM := Lib.hid hform
          have HV2 := Lib.hid hv2
          have hsz10 := hb10.size
          have hfar : ∀ g, w9.heap.size ≤ g → farP w.heap.size b2 v1' v2' g := fun g hg => HT.out.far hg
          have HFAR := Lib.hid hfar
          have hwle : w.heap.size ≤ w9.heap.size := HT.out.bel.size
          clear hu10 hb10 hG10 hform hv2 hfar
          go_wp2_with fail
          go_loopw [24] (fun s24 wr => ∃ k : Nat, k ≤ L5.length ∧ s24 = .int .i64 k ∧ PlAt w wr w.heap.size b2 n v1' v2' L5 L5 ∧ GotAt wr ad w9.heap.size L5 k) (fun s24 _ => L5.length - (intOf s24).toNat)
          case atStart => exact ⟨0, by omega, rfl, HP10.out, HG10.out⟩
          case round =>
            clear r1
            obtain ⟨k, hk, rfl, hPz, hGz⟩ := hrel
            by_cases hkl : k < L5.length
            · obtain ⟨gu, ou, capx, hux, _, _, _, _⟩ := HFM.out (by omega)
              simp only [Value.slice.injEq] at hux
              obtain ⟨had, _, rfl⟩ := hux
              obtain ⟨⟨cur, ty, hcur⟩, hlo, hcg⟩ := hGz gu ou had hkl
              have hyk : L5[k]? = some L5[k] := List.getElem?_eq_getElem hkl
              obtain ⟨e1, e2⟩ := hcg k _ (Nat.le_refl _) hyk
              obtain ⟨g2, o2, cap2x, hu2, _, _, hg2, hc2⟩ := hPz.ref.row.form (by omega)
              rw [HV2.out] at hu2
              simp only [Value.slice.injEq] at hu2
              obtain ⟨had2, _, rfl⟩ := hu2
              have e3 := hc2 _ _ (flatW_at hyk).1
              have e4 := hc2 _ _ (flatW_at hyk).2
              have r1 := cell_of hPz.ref.blk 1
              have hb2l := hPz.ref.lt
              simp only [List.getElem?_toArray, List.getElem?_cons_zero, List.getElem?_cons_succ] at r1
              rw [HV2.out, had2] at r1
              have hgul := (Array.getElem?_eq_some_iff.1 hcur).1
              have HPZ := Lib.hid hPz
              have HGZ := Lib.hid hGz
              have HAD := Lib.hid had
              have HCUR := Lib.hid hcur
              clear hcg hc2 hyk hPz hGz hcur
              generalize L5[k] = y at *
              obtain ⟨y1, y2⟩ := y
              simp only at e1 e2 e3 e4
              rw [Nat.mul_comm 2 k] at e3 e4
              rw [← Nat.add_assoc] at e4
              subst had2
              rw [HAD.out]
              go_wp2_with fail
              refine wp_region_lexA ⟨[], []⟩ (fun x => Below wr.heap.size wr x) (by kernel_rfl) (by kernel_rfl) (Below.refl _ _).drew ?_
              intro S hto hof hne
              have x1 : ∀ z : Wd S, z.w.cell? ⟨gu, ou + k * 2, none⟩ = some (.int .i64 y1) := fun z => ((hto z).cell (p := ⟨gu, _, none⟩) hgul).trans e1
              have x2 : ∀ z : Wd S, z.w.cell? ⟨gu, ou + k * 2 + 1, none⟩ = some (.int .u32 y2) := fun z => ((hto z).cell (p := ⟨gu, _, none⟩) hgul).trans e2
              have x3 : ∀ z : Wd S, z.w.cell? ⟨g2, o2 + k * 2, none⟩ = some (.int .i64 y1) := fun z => ((hto z).cell (p := ⟨g2, _, none⟩) hg2).trans e3
              have x4 : ∀ z : Wd S, z.w.cell? ⟨g2, o2 + k * 2 + 1, none⟩ = some (.int .u32 y2) := fun z => ((hto z).cell (p := ⟨g2, _, none⟩) hg2).trans e4
              have x5 : ∀ z : Wd S, z.w.cell? ⟨b2, 1, none⟩ = some (.slice (some ⟨g2, o2, none⟩) L5.length cap2) := fun z => ((hto z).cell (p := ⟨b2, 1, none⟩) hb2l).trans r1
              have Hof := Lib.hid hof
              have e2d : wr.drew.cell? ⟨gu, ou + k * 2 + 1, none⟩ = some (.int .u32 y2) := e2
              have f2d : wr.drew.frozen? ⟨gu, ou + k * 2 + 1, none⟩ = false := frozen_of (X := wr.drew) HCUR.out _
              clear hto hof e1 e2 e3 e4 r1
              refine lexW_light 30 (by kernel_rfl) ?_
              simp only [List.take_succ_cons, List.take_zero, List.drop_succ_cons, List.drop_zero]
              repeat (first | go_big_quiet_skip | (go_big_quiet_want; go_big_quiet_op; go_big_quiet_on))
              refine wpQuiet_nil ?_
              refine lexW_done ?_
              clear x1 x2 x3 x4 x5
              go_wp2_with fail
              go_roundw
              case measure => simp [intOf]; omega
              case rel =>
                refine ⟨k + 1, by omega, by go_num, ?_, ?_⟩
                · exact (HPZ.out.below (Below.refl _ _).drew).set (HFAR.out gu hlo) (by simp only; omega) _
                · have hgn := HGZ.out.next (wz := wr.drew) (u := .int .u32 99) HAD.out hkl (fun _ => rfl) rfl
                  rw [HAD.out] at hgn
                  exact hgn
            · go_wp2_with fail
              go_roundw
              case measure => simp [intOf]; omega
              case rel => exact ⟨i + 1, v1', v2', L5, by omega, by go_num, hLn5, hPz⟩
        · have k1b : (kd == 1) = false := by simpa using k1
          by_cases k2 : kd = 2
          · subst k2
            go_wp2_with fail
            generalize wr.alloc (.cells #[.int .i64 2, .int .i64 a, .int .u32 x] 42) = wq at hq HPQ ⊢
            have hql := (Array.getElem?_eq_some_iff.1 hq).1
            refine (bforward_c w.heap.size v1 n a L wq HPQ.out.buf (by omega)).mono ?_
            rintro ev w' ⟨rfl, hww⟩
            obtain rfl := hww
            have c1 := cell_of hq 1
            simp only [List.getElem?_toArray, List.getElem?_cons_zero, List.getElem?_cons_succ] at c1
            go_wp2_with fail
            refine (rforward_c b2 v2 n a L wq HPQ.out.ref (by omega)).mono ?_
            rintro ev w' ⟨rfl, hww⟩
            obtain rfl := hww
            generalize fwdF L a = fo at *
            have HT := HPQ
            clear c1 hq
            go_wp2_with fail
            have hL9 : L.length ≤ 8 := by omega
            refine (blist_c w.heap.size v1 n L _ HT.out.buf (by omega)).mono ?_
            rintro ev w10 ⟨u10, rfl, hu10, hb10⟩
            obtain ⟨ad, capu, rfl⟩ := hu10.len
            have HP10 := Lib.hid (HT.out.below hb10)
            have hG10 := GotAt.start hu10
            have hform := fun h => hu10.form h
            obtain ⟨ad2, cap2, hv2⟩ := HT.out.ref.row.len
            have r1 := cell_of HP10.out.ref.blk 1
            simp only [List.getElem?_toArray, List.getElem?_cons_zero, List.getElem?_cons_succ] at r1
            rw [hv2] at r1
            have HG10 := Lib.hid hG10
            have HFM := Lib.hid hform
            have HV2 := Lib.hid hv2
            have hsz10 := hb10.size
            have hfar : ∀ g, wq.heap.size ≤ g → farP w.heap.size b2 v1 v2 g := fun g hg => HT.out.far hg
            have HFAR := Lib.hid hfar
            have hwle : w.heap.size ≤ wq.heap.size := HT.out.bel.size
            clear hu10 hb10 hG10 hform hv2 hfar
            go_wp2_with fail
            go_loopw [24] (fun s24 wr => ∃ k : Nat, k ≤ L.length ∧ s24 = .int .i64 k ∧ PlAt w wr w.heap.size b2 n v1 v2 L L ∧ GotAt wr ad wq.heap.size L k) (fun s24 _ => L.length - (intOf s24).toNat)
            case atStart => exact ⟨0, by omega, rfl, HP10.out, HG10.out⟩
            case round =>
              clear r1
              obtain ⟨k, hk, rfl, hPz, hGz⟩ := hrel
              by_cases hkl : k < L.length
              · obtain ⟨gu, ou, capx, hux, _, _, _, _⟩ := HFM.out (by omega)
                simp only [Value.slice.injEq] at hux
                obtain ⟨had, _, rfl⟩ := hux
                obtain ⟨⟨cur, ty, hcur⟩, hlo, hcg⟩ := hGz gu ou had hkl
                have hyk : L[k]? = some L[k] := List.getElem?_eq_getElem hkl
                obtain ⟨e1, e2⟩ := hcg k _ (Nat.le_refl _) hyk
                obtain ⟨g2, o2, cap2x, hu2, _, _, hg2, hc2⟩ := hPz.ref.row.form (by omega)
                rw [HV2.out] at hu2
                simp only [Value.slice.injEq] at hu2
                obtain ⟨had2, _, rfl⟩ := hu2
                have e3 := hc2 _ _ (flatW_at hyk).1
                have e4 := hc2 _ _ (flatW_at hyk).2
                have r1 := cell_of hPz.ref.blk 1
                have hb2l := hPz.ref.lt
                simp only [List.getElem?_toArray, List.getElem?_cons_zero, List.getElem?_cons_succ] at r1
                rw [HV2.out, had2] at r1
                have hgul := (Array.getElem?_eq_some_iff.1 hcur).1
                have HPZ := Lib.hid hPz
                have HGZ := Lib.hid hGz
                have HAD := Lib.hid had
                have HCUR := Lib.hid hcur
                clear hcg hc2 hyk hPz hGz hcur
                generalize L[k] = y at *
                obtain ⟨y1, y2⟩ := y
                simp only at e1 e2 e3 e4
                rw [Nat.mul_comm 2 k] at e3 e4
                rw [← Nat.add_assoc] at e4
                subst had2
                rw [HAD.out]
                go_wp2_with fail
                refine wp_region_lexA ⟨[], []⟩ (fun x => Below wr.heap.size wr x) (by kernel_rfl) (by kernel_rfl) (Below.refl _ _).drew ?_
                intro S hto hof hne
                have x1 : ∀ z : Wd S, z.w.cell? ⟨gu, ou + k * 2, none⟩ = some (.int .i64 y1) := fun z => ((hto z).cell (p := ⟨gu, _, none⟩) hgul).trans e1
                have x2 : ∀ z : Wd S, z.w.cell? ⟨gu, ou + k * 2 + 1, none⟩ = some (.int .u32 y2) := fun z => ((hto z).cell (p := ⟨gu, _, none⟩) hgul).trans e2
                have x3 : ∀ z : Wd S, z.w.cell? ⟨g2, o2 + k * 2, none⟩ = some (.int .i64 y1) := fun z => ((hto z).cell (p := ⟨g2, _, none⟩) hg2).trans e3
                have x4 : ∀ z : Wd S, z.w.cell? ⟨g2, o2 + k * 2 + 1, none⟩ = some (.int .u32 y2) := fun z => ((hto z).cell (p := ⟨g2, _, none⟩) hg2).trans e4
                have x5 : ∀ z : Wd S, z.w.cell? ⟨b2, 1, none⟩ = some (.slice (some ⟨g2, o2, none⟩) L.length cap2) := fun z => ((hto z).cell (p := ⟨b2, 1, none⟩) hb2l).trans r1
                have Hof := Lib.hid hof
                have e2d : wr.drew.cell? ⟨gu, ou + k * 2 + 1, none⟩ = some (.int .u32 y2) := e2
                have f2d : wr.drew.frozen? ⟨gu, ou + k * 2 + 1, none⟩ = false := frozen_of (X := wr.drew) HCUR.out _
                clear hto hof e1 e2 e3 e4 r1
                refine lexW_light 30 (by kernel_rfl) ?_
                simp only [List.take_succ_cons, List.take_zero, List.drop_succ_cons, List.drop_zero]
                repeat (first | go_big_quiet_skip | (go_big_quiet_want; go_big_quiet_op; go_big_quiet_on))
                refine wpQuiet_nil ?_
                refine lexW_done ?_
                clear x1 x2 x3 x4 x5
                go_wp2_with fail
                go_roundw
                case measure => simp [intOf]; omega
                case rel =>
                  refine ⟨k + 1, by omega, by go_num, ?_, ?_⟩
                  · exact (HPZ.out.below (Below.refl _ _).drew).set (HFAR.out gu hlo) (by simp only; omega) _
                  · have hgn := HGZ.out.next (wz := wr.drew) (u := .int .u32 99) HAD.out hkl (fun _ => rfl) rfl
                    rw [HAD.out] at hgn
                    exact hgn
              · go_wp2_with fail
                go_roundw
                case measure => simp [intOf]; omega
                case rel => exact ⟨i + 1, v1, v2, L, by omega, by go_num, hLn, hPz⟩
          · have k2b : (kd == 2) = false := by simpa using k2
            by_cases k3 : kd = 3
            · subst k3
              go_wp2_with fail
              generalize wr.alloc (.cells #[.int .i64 3, .int .i64 a, .int .u32 x] 42) = wq at hq HPQ ⊢
              have hql := (Array.getElem?_eq_some_iff.1 hq).1
              refine (bhead_c w.heap.size v1 n L wq HPQ.out.buf (by omega)).mono ?_
              rintro ev w4 ⟨rfl, hb4⟩
              rw [headV_hd]
              have HP4 := Lib.hid (HPQ.out.below hb4)
              generalize hA' : hdA L = ha at *
              generalize hV' : hdV L = hv at *
              have HHA := Lib.hid hA'
              have HHV := Lib.hid hV'
              clear hb4 hA' hV' hq
              go_wp2_with fail
              have hb5 : Below w4.heap.size w4 (w4.alloc (.cells #[.int .i64 ha, .int .u32 hv] 32)) := (Below.refl _ _).alloc (Nat.le_refl _) _
              have hX5 := heap_alloc_new w4 (.cells #[.int .i64 ha, .int .u32 hv] 32)
              have HP5 := Lib.hid (HP4.out.below hb5)
              generalize w4.alloc (.cells #[.int .i64 ha, .int .u32 hv] 32) = w5 at hX5 HP5 ⊢
              clear hb5
              refine (rhead_c b2 v2 n L w5 HP5.out.ref).mono ?_
              rintro ev w9 ⟨rfl, hb9⟩
              rw [HHA.out, HHV.out]
              have hX9 := (hb9.block w4.heap.size (Array.getElem?_eq_some_iff.1 hX5).1).trans hX5
              have c0 := cell_of hX9 0
              have c1 := cell_of hX9 1
              simp only [List.getElem?_toArray, List.getElem?_cons_zero, List.getElem?_cons_succ] at c0 c1
              have HT := Lib.hid (HP5.out.below hb9)
              generalize decide (0 < L.length) = bl at *
              clear hb9 hX5 hX9
              go_wp2_with fail
              clear c0 c1
              have hL9 : L.length ≤ 8 := by omega
              refine (blist_c w.heap.size v1 n L _ HT.out.buf (by omega)).mono ?_
              rintro ev w10 ⟨u10, rfl, hu10, hb10⟩
              obtain ⟨ad, capu, rfl⟩ := hu10.len
              have HP10 := Lib.hid (HT.out.below hb10)
              have hG10 := GotAt.start hu10
              have hform := fun h => hu10.form h
              obtain ⟨ad2, cap2, hv2⟩ := HT.out.ref.row.len
              have r1 := cell_of HP10.out.ref.blk 1
              simp only [List.getElem?_toArray, List.getElem?_cons_zero, List.getElem?_cons_succ] at r1
              rw [hv2] at r1
              have HG10 := Lib.hid hG10
              have HFM := Lib.hid hform
              have HV2 := Lib.hid hv2
              have hsz10 := hb10.size
              have hfar : ∀ g, w9.heap.size ≤ g → farP w.heap.size b2 v1 v2 g := fun g hg => HT.out.far hg
              have HFAR := Lib.hid hfar
              have hwle : w.heap.size ≤ w9.heap.size := HT.out.bel.size
              clear hu10 hb10 hG10 hform hv2 hfar
              go_wp2_with fail
              go_loopw [24] (fun s24 wr => ∃ k : Nat, k ≤ L.length ∧ s24 = .int .i64 k ∧ PlAt w wr w.heap.size b2 n v1 v2 L L ∧ GotAt wr ad w9.heap.size L k) (fun s24 _ => L.length - (intOf s24).toNat)
              case atStart => exact ⟨0, by omega, rfl, HP10.out, HG10.out⟩
              case round =>
                clear r1
                obtain ⟨k, hk, rfl, hPz, hGz⟩ := hrel
                by_cases hkl : k < L.length
                · obtain ⟨gu, ou, capx, hux, _, _, _, _⟩ := HFM.out (by omega)
                  simp only [Value.slice.injEq] at hux
                  obtain ⟨had, _, rfl⟩ := hux
                  obtain ⟨⟨cur, ty, hcur⟩, hlo, hcg⟩ := hGz gu ou had hkl
                  have hyk : L[k]? = some L[k] := List.getElem?_eq_getElem hkl
                  obtain ⟨e1, e2⟩ := hcg k _ (Nat.le_refl _) hyk
                  obtain ⟨g2, o2, cap2x, hu2, _, _, hg2, hc2⟩ := hPz.ref.row.form (by omega)
                  rw [HV2.out] at hu2
                  simp only [Value.slice.injEq] at hu2
                  obtain ⟨had2, _, rfl⟩ := hu2
                  have e3 := hc2 _ _ (flatW_at hyk).1
                  have e4 := hc2 _ _ (flatW_at hyk).2
                  have r1 := cell_of hPz.ref.blk 1
                  have hb2l := hPz.ref.lt
                  simp only [List.getElem?_toArray, List.getElem?_cons_zero, List.getElem?_cons_succ] at r1
                  rw [HV2.out, had2] at r1
                  have hgul := (Array.getElem?_eq_some_iff.1 hcur).1
                  have HPZ := Lib.hid hPz
                  have HGZ := Lib.hid hGz
                  have HAD := Lib.hid had
                  have HCUR := Lib.hid hcur
                  clear hcg hc2 hyk hPz hGz hcur
                  generalize L[k] = y at *
                  obtain ⟨y1, y2⟩ := y
                  simp only at e1 e2 e3 e4
                  rw [Nat.mul_comm 2 k] at e3 e4
                  rw [← Nat.add_assoc] at e4
                  subst had2
                  rw [HAD.out]
                  go_wp2_with fail
                  refine wp_region_lexA ⟨[], []⟩ (fun x => Below wr.heap.size wr x) (by kernel_rfl) (by kernel_rfl) (Below.refl _ _).drew ?_
                  intro S hto hof hne
                  have x1 : ∀ z : Wd S, z.w.cell? ⟨gu, ou + k * 2, none⟩ = some (.int .i64 y1) := fun z => ((hto z).cell (p := ⟨gu, _, none⟩) hgul).trans e1
                  have x2 : ∀ z : Wd S, z.w.cell? ⟨gu, ou + k * 2 + 1, none⟩ = some (.int .u32 y2) := fun z => ((hto z).cell (p := ⟨gu, _, none⟩) hgul).trans e2
                  have x3 : ∀ z : Wd S, z.w.cell? ⟨g2, o2 + k * 2, none⟩ = some (.int .i64 y1) := fun z => ((hto z).cell (p := ⟨g2, _, none⟩) hg2).trans e3
                  have x4 : ∀ z : Wd S, z.w.cell? ⟨g2, o2 + k * 2 + 1, none⟩ = some (.int .u32 y2) := fun z => ((hto z).cell (p := ⟨g2, _, none⟩) hg2).trans e4
                  have x5 : ∀ z : Wd S, z.w.cell? ⟨b2, 1, none⟩ = some (.slice (some ⟨g2, o2, none⟩) L.length cap2) := fun z => ((hto z).cell (p := ⟨b2, 1, none⟩) hb2l).trans r1
                  have Hof := Lib.hid hof
                  have e2d : wr.drew.cell? ⟨gu, ou + k * 2 + 1, none⟩ = some (.int .u32 y2) := e2
                  have f2d : wr.drew.frozen? ⟨gu, ou + k * 2 + 1, none⟩ = false := frozen_of (X := wr.drew) HCUR.out _
                  clear hto hof e1 e2 e3 e4 r1
                  refine lexW_light 30 (by kernel_rfl) ?_
                  simp only [List.take_succ_cons, List.take_zero, List.drop_succ_cons, List.drop_zero]
                  repeat (first | go_big_quiet_skip | (go_big_quiet_want; go_big_quiet_op; go_big_quiet_on))
                  refine wpQuiet_nil ?_
                  refine lexW_done ?_
                  clear x1 x2 x3 x4 x5
                  go_wp2_with fail
                  go_roundw
                  case measure => simp [intOf]; omega
                  case rel =>
                    refine ⟨k + 1, by omega, by go_num, ?_, ?_⟩
                    · exact (HPZ.out.below (Below.refl _ _).drew).set (HFAR.out gu hlo) (by simp only; omega) _
                    · have hgn := HGZ.out.next (wz := wr.drew) (u := .int .u32 99) HAD.out hkl (fun _ => rfl) rfl
                      rw [HAD.out] at hgn
                      exact hgn
                · go_wp2_with fail
                  go_roundw
                  case measure => simp [intOf]; omega
                  case rel => exact ⟨i + 1, v1, v2, L, by omega, by go_num, hLn, hPz⟩
            · have k3b : (kd == 3) = false := by simpa using k3
              by_cases k4 : kd = 4
              · subst k4
                go_wp2_with fail
                generalize wr.alloc (.cells #[.int .i64 4, .int .i64 a, .int .u32 x] 42) = wq at hq HPQ ⊢
                have hql := (Array.getElem?_eq_some_iff.1 hq).1
                refine (bpop_c w.heap.size v1 n L wq HPQ.out.buf (by omega)).mono ?_
                rintro ev w4 ⟨rfl, v1', hA4, hM4, hO4⟩
                have HP4 := Lib.hid (HPQ.out.one hA4 hM4 hO4)
                clear hA4 hM4 hO4 hq
                go_wp2_with fail
                refine (rpop_c b2 v2 n L w4 HP4.out.ref).mono ?_
                rintro ev w9 ⟨rfl, v2', hA5, hM5, hO5⟩
                have HT := Lib.hid (HP4.out.two hA5 hM5 hO5)
                have hLn5 : ((L.drop 1).length : Int) ≤ n := by rw [List.length_drop]; omega
                generalize decide (0 < L.length) = bl at *
                generalize L.drop 1 = L5 at *
                clear hA5 hM5 hO5
                go_wp2_with fail
                have hL9 : L5.length ≤ 8 := by omega
                refine (blist_c w.heap.size v1' n L5 _ HT.out.buf (by omega)).mono ?_
                rintro ev w10 ⟨u10, rfl, hu10, hb10⟩
                obtain ⟨ad, capu, rfl⟩ := hu10.len
                have HP10 := Lib.hid (HT.out.below hb10)
                have hG10 := GotAt.start hu10
                have hform := fun h => hu10.form h
                obtain ⟨ad2, cap2, hv2⟩ := HT.out.ref.row.len
                have r1 := cell_of HP10.out.ref.blk 1
                simp only [List.getElem?_toArray, List.getElem?_cons_zero, List.getElem?_cons_succ] at r1
                rw [hv2] at r1
                have HG10 := Lib.hid hG10
                have HFM := Lib.hid hform
                have HV2 := Lib.hid hv2
                have hsz10 := hb10.size
                have hfar : ∀ g, w9.heap.size ≤ g → farP w.heap.size b2 v1' v2' g := fun g hg => HT.out.far hg
                have HFAR := Lib.hid hfar
                have hwle : w.heap.size ≤ w9.heap.size := HT.out.bel.size
                clear hu10 hb10 hG10 hform hv2 hfar
                go_wp2_with fail
                go_loopw [24] (fun s24 wr => ∃ k : Nat, k ≤ L5.length ∧ s24 = .int .i64 k ∧ PlAt w wr w.heap.size b2 n v1' v2' L5 L5 ∧ GotAt wr ad w9.heap.size L5 k) (fun s24 _ => L5.length - (intOf s24).toNat)
                case atStart => exact ⟨0, by omega, rfl, HP10.out, HG10.out⟩
                case round =>
                  clear r1
                  obtain ⟨k, hk, rfl, hPz, hGz⟩ := hrel
                  by_cases hkl : k < L5.length
                  · obtain ⟨gu, ou, capx, hux, _, _, _, _⟩ := HFM.out (by omega)
                    simp only [Value.slice.injEq] at hux
                    obtain ⟨had, _, rfl⟩ := hux
                    obtain ⟨⟨cur, ty, hcur⟩, hlo, hcg⟩ := hGz gu ou had hkl
                    have hyk : L5[k]? = some L5[k] := List.getElem?_eq_getElem hkl
                    obtain ⟨e1, e2⟩ := hcg k _ (Nat.le_refl _) hyk
                    obtain ⟨g2, o2, cap2x, hu2, _, _, hg2, hc2⟩ := hPz.ref.row.form (by omega)
                    rw [HV2.out] at hu2
                    simp only [Value.slice.injEq] at hu2
                    obtain ⟨had2, _, rfl⟩ := hu2
                    have e3 := hc2 _ _ (flatW_at hyk).1
                    have e4 := hc2 _ _ (flatW_at hyk).2
                    have r1 := cell_of hPz.ref.blk 1
                    have hb2l := hPz.ref.lt
                    simp only [List.getElem?_toArray, List.getElem?_cons_zero, List.getElem?_cons_succ] at r1
                    rw [HV2.out, had2] at r1
                    have hgul := (Array.getElem?_eq_some_iff.1 hcur).1
                    have HPZ := Lib.hid hPz
                    have HGZ := Lib.hid hGz
                    have HAD := Lib.hid had
                    have HCUR := Lib.hid hcur
                    clear hcg hc2 hyk hPz hGz hcur
                    generalize L5[k] = y at *
                    obtain ⟨y1, y2⟩ := y
                    simp only at e1 e2 e3 e4
                    rw [Nat.mul_comm 2 k] at e3 e4
                    rw [← Nat.add_assoc] at e4
                    subst had2
                    rw [HAD.out]
                    go_wp2_with fail
                    refine wp_region_lexA ⟨[], []⟩ (fun x => Below wr.heap.size wr x) (by kernel_rfl) (by kernel_rfl) (Below.refl _ _).drew ?_
                    intro S hto hof hne
                    have x1 : ∀ z : Wd S, z.w.cell? ⟨gu, ou + k * 2, none⟩ = some (.int .i64 y1) := fun z => ((hto z).cell (p := ⟨gu, _, none⟩) hgul).trans e1
                    have x2 : ∀ z : Wd S, z.w.cell? ⟨gu, ou + k * 2 + 1, none⟩ = some (.int .u32 y2) := fun z => ((hto z).cell (p := ⟨gu, _, none⟩) hgul).trans e2
                    have x3 : ∀ z : Wd S, z.w.cell? ⟨g2, o2 + k * 2, none⟩ = some (.int .i64 y1) := fun z => ((hto z).cell (p := ⟨g2, _, none⟩) hg2).trans e3
                    have x4 : ∀ z : Wd S, z.w.cell? ⟨g2, o2 + k * 2 + 1, none⟩ = some (.int .u32 y2) := fun z => ((hto z).cell (p := ⟨g2, _, none⟩) hg2).trans e4
                    have x5 : ∀ z : Wd S, z.w.cell? ⟨b2, 1, none⟩ = some (.slice (some ⟨g2, o2, none⟩) L5.length cap2) := fun z => ((hto z).cell (p := ⟨b2, 1, none⟩) hb2l).trans r1
                    have Hof := Lib.hid hof
                    have e2d : wr.drew.cell? ⟨gu, ou + k * 2 + 1, none⟩ = some (.int .u32 y2) := e2
                    have f2d : wr.drew.frozen? ⟨gu, ou + k * 2 + 1, none⟩ = false := frozen_of (X := wr.drew) HCUR.out _
                    clear hto hof e1 e2 e3 e4 r1
                    refine lexW_light 30 (by kernel_rfl) ?_
                    simp only [List.take_succ_cons, List.take_zero, List.drop_succ_cons, List.drop_zero]
                    repeat (first | go_big_quiet_skip | (go_big_quiet_want; go_big_quiet_op; go_big_quiet_on))
                    refine wpQuiet_nil ?_
                    refine lexW_done ?_
                    clear x1 x2 x3 x4 x5
                    go_wp2_with fail
                    go_roundw
                    case measure => simp [intOf]; omega
                    case rel =>
                      refine ⟨k + 1, by omega, by go_num, ?_, ?_⟩
                      · exact (HPZ.out.below (Below.refl _ _).drew).set (HFAR.out gu hlo) (by simp only; omega) _
                      · have hgn := HGZ.out.next (wz := wr.drew) (u := .int .u32 99) HAD.out hkl (fun _ => rfl) rfl
                        rw [HAD.out] at hgn
                        exact hgn
                  · go_wp2_with fail
                    go_roundw
                    case measure => simp [intOf]; omega
                    case rel => exact ⟨i + 1, v1', v2', L5, by omega, by go_num, hLn5, hPz⟩
              · have k4b : (kd == 4) = false := by simpa using k4
                clear k1 k2 k3 k4
                go_wp2_with fail
                generalize wr.alloc (.cells #[.int .i64 kd, .int .i64 a, .int .u32 x] 42) = wq at hq HPQ ⊢
                have hql := (Array.getElem?_eq_some_iff.1 hq).1
                have HT := HPQ
                clear hq
                have hL9 : L.length ≤ 8 := by omega
                refine (blist_c w.heap.size v1 n L _ HT.out.buf (by omega)).mono ?_
                rintro ev w10 ⟨u10, rfl, hu10, hb10⟩
                obtain ⟨ad, capu, rfl⟩ := hu10.len
                have HP10 := Lib.hid (HT.out.below hb10)
                have hG10 := GotAt.start hu10
                have hform := fun h => hu10.form h
                obtain ⟨ad2, cap2, hv2⟩ := HT.out.ref.row.len
                have r1 := cell_of HP10.out.ref.blk 1
                simp only [List.getElem?_toArray, List.getElem?_cons_zero, List.getElem?_cons_succ] at r1
                rw [hv2] at r1
                have HG10 := Lib.hid hG10
                have HFM := Lib.hid hform
                have HV2 := Lib.hid hv2
                have hsz10 := hb10.size
                have hfar : ∀ g, wq.heap.size ≤ g → farP w.heap.size b2 v1 v2 g := fun g hg => HT.out.far hg
                have HFAR := Lib.hid hfar
                have hwle : w.heap.size ≤ wq.heap.size := HT.out.bel.size
                clear hu10 hb10 hG10 hform hv2 hfar
                go_wp2_with fail
                go_loopw [24] (fun s24 wr => ∃ k : Nat, k ≤ L.length ∧ s24 = .int .i64 k ∧ PlAt w wr w.heap.size b2 n v1 v2 L L ∧ GotAt wr ad wq.heap.size L k) (fun s24 _ => L.length - (intOf s24).toNat)
                case atStart => exact ⟨0, by omega, rfl, HP10.out, HG10.out⟩
                case round =>
                  clear r1
                  obtain ⟨k, hk, rfl, hPz, hGz⟩ := hrel
                  by_cases hkl : k < L.length
                  · obtain ⟨gu, ou, capx, hux, _, _, _, _⟩ := HFM.out (by omega)
                    simp only [Value.slice.injEq] at hux
                    obtain ⟨had, _, rfl⟩ := hux
                    obtain ⟨⟨cur, ty, hcur⟩, hlo, hcg⟩ := hGz gu ou had hkl
                    have hyk : L[k]? = some L[k] := List.getElem?_eq_getElem hkl
                    obtain ⟨e1, e2⟩ := hcg k _ (Nat.le_refl _) hyk
                    obtain ⟨g2, o2, cap2x, hu2, _, _, hg2, hc2⟩ := hPz.ref.row.form (by omega)
                    rw [HV2.out] at hu2
                    simp only [Value.slice.injEq] at hu2
                    obtain ⟨had2, _, rfl⟩ := hu2
                    have e3 := hc2 _ _ (flatW_at hyk).1
                    have e4 := hc2 _ _ (flatW_at hyk).2
                    have r1 := cell_of hPz.ref.blk 1
                    have hb2l := hPz.ref.lt
                    simp only [List.getElem?_toArray, List.getElem?_cons_zero, List.getElem?_cons_succ] at r1
                    rw [HV2.out, had2] at r1
                    have hgul := (Array.getElem?_eq_some_iff.1 hcur).1
                    have HPZ := Lib.hid hPz
                    have HGZ := Lib.hid hGz
                    have HAD := Lib.hid had
                    have HCUR := Lib.hid hcur
                    clear hcg hc2 hyk hPz hGz hcur
                    generalize L[k] = y at *
                    obtain ⟨y1, y2⟩ := y
                    simp only at e1 e2 e3 e4
                    rw [Nat.mul_comm 2 k] at e3 e4
                    rw [← Nat.add_assoc] at e4
                    subst had2
                    rw [HAD.out]
                    go_wp2_with fail
                    refine wp_region_lexA ⟨[], []⟩ (fun x => Below wr.heap.size wr x) (by kernel_rfl) (by kernel_rfl) (Below.refl _ _).drew ?_
                    intro S hto hof hne
                    have x1 : ∀ z : Wd S, z.w.cell? ⟨gu, ou + k * 2, none⟩ = some (.int .i64 y1) := fun z => ((hto z).cell (p := ⟨gu, _, none⟩) hgul).trans e1
                    have x2 : ∀ z : Wd S, z.w.cell? ⟨gu, ou + k * 2 + 1, none⟩ = some (.int .u32 y2) := fun z => ((hto z).cell (p := ⟨gu, _, none⟩) hgul).trans e2
                    have x3 : ∀ z : Wd S, z.w.cell? ⟨g2, o2 + k * 2, none⟩ = some (.int .i64 y1) := fun z => ((hto z).cell (p := ⟨g2, _, none⟩) hg2).trans e3
                    have x4 : ∀ z : Wd S, z.w.cell? ⟨g2, o2 + k * 2 + 1, none⟩ = some (.int .u32 y2) := fun z => ((hto z).cell (p := ⟨g2, _, none⟩) hg2).trans e4
                    have x5 : ∀ z : Wd S, z.w.cell? ⟨b2, 1, none⟩ = some (.slice (some ⟨g2, o2, none⟩) L.length cap2) := fun z => ((hto z).cell (p := ⟨b2, 1, none⟩) hb2l).trans r1
                    have Hof := Lib.hid hof
                    have e2d : wr.drew.cell? ⟨gu, ou + k * 2 + 1, none⟩ = some (.int .u32 y2) := e2
                    have f2d : wr.drew.frozen? ⟨gu, ou + k * 2 + 1, none⟩ = false := frozen_of (X := wr.drew) HCUR.out _
                    clear hto hof e1 e2 e3 e4 r1
                    refine lexW_light 30 (by kernel_rfl) ?_
                    simp only [List.take_succ_cons, List.take_zero, List.drop_succ_cons, List.drop_zero]
                    repeat (first | go_big_quiet_skip | (go_big_quiet_want; go_big_quiet_op; go_big_quiet_on))
                    refine wpQuiet_nil ?_
                    refine lexW_done ?_
                    clear x1 x2 x3 x4 x5
                    go_wp2_with fail
                    go_roundw
                    case measure => simp [intOf]; omega
                    case rel =>
                      refine ⟨k + 1, by omega, by go_num, ?_, ?_⟩
                      · exact (HPZ.out.below (Below.refl _ _).drew).set (HFAR.out gu hlo) (by simp only; omega) _
                      · have hgn := HGZ.out.next (wz := wr.drew) (u := .int .u32 99) HAD.out hkl (fun _ => rfl) rfl
                        rw [HAD.out] at hgn
                        exact hgn
                  · go_wp2_with fail
                    go_roundw
                    case measure => simp [intOf]; omega
                    case rel => exact ⟨i + 1, v1, v2, L, by omega, by go_num, hLn, hPz⟩
      · go_wp2_with fail
        refine (bufferRuns A _ (HS.out.below HP.out.bel)).mono ?_
        rintro ev w4 ⟨rfl, hb4⟩
        go_wp2_with fail
        go_ret
        exact ⟨rfl, HP.out.bel.trans (hb4.mono HP.out.bel.size)⟩
    · go_wp2_with fail
      refine (bufferRuns A _ (HS.out.below HP.out.bel)).mono ?_
      rintro ev w4 ⟨rfl, hb4⟩
      go_wp2_with fail
      go_ret
      exact ⟨rfl, HP.out.bel.trans (hb4.mono HP.out.bel.size)⟩

theorem bufferPlays (A : Nat → Addr) (n : Int) (v1 : Value) (n1 : Nat) (f : Nat → Nat → Int) (w : World) (hs : SentAt w A) (_hn : -9223372036854775808 ≤ n ∧ n ≤ 9223372036854775807) (h1 : ReqsAt ks8 3 w v1 n1 f) :
    Calls Tryd.prog 4 #[.int .i64 n, v1] w (TruePost w) := by
  by_cases hn : 1 ≤ n ∧ n ≤ 8
  · exact bufferPlays_ok A n v1 n1 f w hs hn h1
  · exact bufferPlays_no A n v1 n1 f w hs (by omega) h1

end Go.Proofs.YteljpfbfkpdchaaDoor
