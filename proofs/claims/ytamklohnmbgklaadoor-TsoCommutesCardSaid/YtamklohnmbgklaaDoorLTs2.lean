/- TsoCas: true; no condition but what a start gives. -/
import Derived.Test.YtamklohnmbgklaaDoorLTs1
import Derived.Test.YtamklohnmbgklaaDoorBools
import Derived.Test.YtamklohnmbgklaaDoorInts
import Derived.Test.YtamklohnmbgklaaDoorBk
namespace Go.Proofs.YtamklohnmbgklaaDoor
open Go.RowKit Go.Extern.Stop Go.Stop Go.Extern

theorem rep_getD (k j : Nat) : (List.replicate k ([] : List (Int × Int))).getD j [] = [] := by
  rw [List.getD_eq_getElem?_getD, List.getElem?_replicate]
  split <;> rfl
theorem cas_ok {k : Nat} {c : Int} (h0 : 0 ≤ c) (h1 : c < k) (x y : Int) : stC (List.replicate k []) [x] ⟨4, c, 0, x, y, true⟩ = 0 := by
  have hc : okC (List.replicate k []) c := ⟨h0, by simpa using h1⟩
  simp [stC, hc, okA]
  rw [← List.getD_eq_getElem?_getD, rep_getD]
theorem cas_no {k : Nat} {c : Int} (h0 : 0 ≤ c) (h1 : c < k) (x z y : Int) (hne : x ≠ z) : stC (List.replicate k []) [x] ⟨4, c, 0, z, y, true⟩ = 10 := by
  have hc : okC (List.replicate k []) c := ⟨h0, by simpa using h1⟩
  simp [stC, hc, okA, hne]
  rw [← List.getD_eq_getElem?_getD, rep_getD]

set_option maxRecDepth 100000 in
set_option maxHeartbeats 8000000 in
theorem tsoCas (A : Nat → Addr) (cores : Int) (v1 : Value) (n1 : Nat) (g1 : Nat → Int) (v2 : Value) (n2 : Nat) (g2 : Nat → Bool) (w : World) (hs : SentAt w A) (hc : -9223372036854775808 ≤ cores ∧ cores ≤ 9223372036854775807) (h1 : IntsAt .i64 w v1 n1 g1) (h2 : BoolsAt w v2 n2 g2) :
    Calls Tryd.prog 5 #[.int .i64 cores, v1, v2] w (TruePost w) := by
  have HS := Lib.hid hs
  obtain ⟨p1, c1, rfl, hel⟩ := h1.form
  have HEL := Lib.hid hel
  have HNUM := Lib.hid h1.num
  obtain ⟨p2, c2, rfl, hel2⟩ := h2.form
  have HEL2 := Lib.hid hel2
  have hwi := wiF_b (n := cores) (lo := 1) (hi := 8) (by omega)
  obtain ⟨k, hk⟩ : ∃ k : Nat, wiF cores 1 8 = (k : Int) := ⟨(wiF cores 1 8).toNat, by omega⟩
  have HK := Lib.hid hk
  have HKB := Lib.hid (show 1 ≤ k ∧ k ≤ 8 by omega)
  have HC := Lib.hid hc
  clear hs h1 hel h2 hel2 hwi hk hc
  go_enter Tryd.func5, Tryd.ntmps5
  go_wp2_with fail
  refine (Within_b cores 1 8 w (by omega) (by omega) (by omega) HC.out.1 HC.out.2).mono ?_
  rintro ev w' ⟨rfl, hww⟩
  obtain rfl := hww
  rw [HK.out]
  go_wp2_with fail
  refine (tnew_ok k 1 w HKB.out.1 (by have := HKB.out; omega) (by omega) (by omega)).mono ?_
  rintro ev w1 ⟨b, rfl, ⟨F, hF⟩, hb1⟩
  have HF := Lib.hid hF
  have HB1 := Lib.hid hb1
  clear hF hb1
  go_wp2_with fail
  go_loopw [10, 11] (fun s10 s11 wr => ∃ (i nn : Nat) (F : Nat → Prop), i ≤ n1 ∧ i ≤ 40 ∧ nn ≤ i ∧ s10 = .int .u32 nn ∧ s11 = .int .i64 i ∧ Md tyP wr w.heap.size b F (List.replicate k []) [(nn : Int)] ∧ Below w.heap.size w wr) (fun _ s11 _ => 40 - (intOf s11).toNat)
  case atStart => exact ⟨0, 0, F, by omega, by omega, by omega, rfl, rfl, HF.out, HB1.out⟩
  case round =>
    clear HF HB1
    obtain ⟨i, nn, F, hi, hi40, hnn, rfl, rfl, hF, hB⟩ := hrel
    have HF := Lib.hid hF
    have HB := Lib.hid hB
    clear hF hB
    by_cases hin : i < n1 ∧ i < 40
    · obtain ⟨hi1, hi4⟩ := hin
      have g3 : decide (i < n1) = true := by simp; omega
      obtain ⟨bq, oq, rfl, hbq, hcq⟩ := HEL.out i hi1
      have e1 := (HB.out.cell (p := ⟨bq, oq + i, none⟩) hbq).trans hcq
      have HNB := Lib.hid (Go.bounds_i64 (HNUM.out i hi1))
      have hwi := wiF_b (n := g1 i) (lo := 0) (hi := (k : Int) - 1) (by have := HKB.out; omega)
      have HWI := Lib.hid hwi
      have hkb := HKB.out
      clear hbq hcq hwi
      go_wp2_with fail
      refine (Within_b (g1 i) 0 ((k : Int) - 1) _ (by omega) (by omega) (by omega) HNB.out.1 HNB.out.2).mono ?_
      rintro ev w' ⟨rfl, hww⟩
      obtain rfl := hww
      generalize wiF (g1 i) 0 ((k : Int) - 1) = c at *
      by_cases hl2 : i < n2
      · have g5 : decide (i < n2) = true := by simp; omega
        obtain ⟨bl, ol, rfl, hbl, hcl⟩ := HEL2.out i hl2
        have e2 := (HB.out.cell (p := ⟨bl, ol + i, none⟩) hbl).trans hcl
        have hblr := Nat.lt_of_lt_of_le hbl HB.out.size
        clear hbl hcl
        cases hg : g2 i with
        | true =>
          rw [hg] at e2
          clear hg
          have hba : Below wr.heap.size wr (wr.alloc (.cells #[.int .i64 4, .int .i64 c, .int .i64 0, .int .u32 ((nn : Int) + 1), .int .u32 ((nn : Int) + 1), .bool true] 24)) := (Below.refl _ _).alloc (Nat.le_refl _) _
          have hst : stC (List.replicate k []) [(nn : Int)] ⟨4, c, 0, (nn : Int) + 1, (nn : Int) + 1, true⟩ = 10 := cas_no (by have := HWI.out; omega) (by have := HWI.out; omega) _ _ _ (by omega)
          have HST := Lib.hid hst
          have HBA := Lib.hid hba
          clear hba hst
          go_wp2_with fail
          refine (tstep_c A w.heap.size b F (List.replicate k []) [(nn : Int)] ⟨4, c, 0, (nn : Int) + 1, (nn : Int) + 1, true⟩ _ (HS.out.below (HB.out.trans (HBA.out.mono HB.out.size))) (HF.out.below HBA.out) (by simp) (fun j => by rw [rep_getD]; simp)).mono ?_
          rintro ev w2 ⟨rfl, F', hF', hM2, _⟩
          have hw2 := Lib.hid ((HB.out.trans (HBA.out.mono HB.out.size)).trans (hM2.below (by have := HB.out.size; simp; omega) fun q hq => (HF.out.lt q hq).1))
          rw [show stepE (List.replicate k []) [(nn : Int)] ⟨4, c, 0, (nn : Int) + 1, (nn : Int) + 1, true⟩ = .wrap tsT c (.sent 9) by unfold stepE; rw [if_neg (by rw [HST.out]; decide), HST.out], show (ErrT.wrap tsT c (.sent 9)).val A = .iface 78 (.agg #[.string tsT, .int .i64 c, .iface 129 (.pointer (some (A 9)))]) from rfl]
          have hF2 : Md tyP w2 w.heap.size b F' (List.replicate k []) [(nn : Int)] := by
            unfold nxB nxM at hF'
            rw [if_neg (by rw [HST.out]; decide), if_neg (by rw [HST.out]; decide)] at hF'
            exact hF'
          have HF2 := Lib.hid hF2
          clear hF' hM2 hF2
          go_wp2_with fail
          go_roundw
          case rel => exact ⟨i + 1, nn, F', by omega, by omega, by omega, rfl, by go_num, HF2.out, hw2.out⟩
          case measure => simp [intOf]; omega
        | false =>
          rw [hg] at e2
          clear hg
          have hba : Below wr.heap.size wr (wr.alloc (.cells #[.int .i64 4, .int .i64 c, .int .i64 0, .int .u32 nn, .int .u32 ((nn : Int) + 1), .bool true] 24)) := (Below.refl _ _).alloc (Nat.le_refl _) _
          have hst : stC (List.replicate k []) [(nn : Int)] ⟨4, c, 0, nn, (nn : Int) + 1, true⟩ = 0 := cas_ok (by have := HWI.out; omega) (by have := HWI.out; omega) _ _
          have HST := Lib.hid hst
          have HBA := Lib.hid hba
          clear hba hst
          go_wp2_with fail
          refine (tstep_c A w.heap.size b F (List.replicate k []) [(nn : Int)] ⟨4, c, 0, nn, (nn : Int) + 1, true⟩ _ (HS.out.below (HB.out.trans (HBA.out.mono HB.out.size))) (HF.out.below HBA.out) (by simp) (fun j => by rw [rep_getD]; simp)).mono ?_
          rintro ev w2 ⟨rfl, F', hF', hM2, _⟩
          have hw2 := Lib.hid ((HB.out.trans (HBA.out.mono HB.out.size)).trans (hM2.below (by have := HB.out.size; simp; omega) fun q hq => (HF.out.lt q hq).1))
          rw [show stepE (List.replicate k []) [(nn : Int)] ⟨4, c, 0, nn, (nn : Int) + 1, true⟩ = .nil by unfold stepE; rw [if_pos HST.out], show ErrT.nil.val A = .nilIface from rfl]
          have hF2 : Md tyP w2 w.heap.size b F' (List.replicate k []) [((nn + 1 : Nat) : Int)] := by
            unfold nxB nxM at hF'
            rw [if_pos HST.out, if_pos HST.out] at hF'
            exact hF'
          have HF2 := Lib.hid hF2
          clear hF' hM2 hF2
          go_wp2_with fail
          go_roundw
          case rel => exact ⟨i + 1, nn + 1, F', by omega, by omega, by omega, by go_num, by go_num, HF2.out, hw2.out⟩
          case measure => simp [intOf]; omega
      · have g5 : decide (i < n2) = false := by simp; omega
        have hba : Below wr.heap.size wr (wr.alloc (.cells #[.int .i64 4, .int .i64 c, .int .i64 0, .int .u32 nn, .int .u32 ((nn : Int) + 1), .bool true] 24)) := (Below.refl _ _).alloc (Nat.le_refl _) _
        have hst : stC (List.replicate k []) [(nn : Int)] ⟨4, c, 0, nn, (nn : Int) + 1, true⟩ = 0 := cas_ok (by have := HWI.out; omega) (by have := HWI.out; omega) _ _
        have HST := Lib.hid hst
        have HBA := Lib.hid hba
        clear hba hst
        go_wp2_with fail
        refine (tstep_c A w.heap.size b F (List.replicate k []) [(nn : Int)] ⟨4, c, 0, nn, (nn : Int) + 1, true⟩ _ (HS.out.below (HB.out.trans (HBA.out.mono HB.out.size))) (HF.out.below HBA.out) (by simp) (fun j => by rw [rep_getD]; simp)).mono ?_
        rintro ev w2 ⟨rfl, F', hF', hM2, _⟩
        have hw2 := Lib.hid ((HB.out.trans (HBA.out.mono HB.out.size)).trans (hM2.below (by have := HB.out.size; simp; omega) fun q hq => (HF.out.lt q hq).1))
        rw [show stepE (List.replicate k []) [(nn : Int)] ⟨4, c, 0, nn, (nn : Int) + 1, true⟩ = .nil by unfold stepE; rw [if_pos HST.out], show ErrT.nil.val A = .nilIface from rfl]
        have hF2 : Md tyP w2 w.heap.size b F' (List.replicate k []) [((nn + 1 : Nat) : Int)] := by
          unfold nxB nxM at hF'
          rw [if_pos HST.out, if_pos HST.out] at hF'
          exact hF'
        have HF2 := Lib.hid hF2
        clear hF' hM2 hF2
        go_wp2_with fail
        go_roundw
        case rel => exact ⟨i + 1, nn + 1, F', by omega, by omega, by omega, by go_num, by go_num, HF2.out, hw2.out⟩
        case measure => simp [intOf]; omega
    · by_cases hi1 : i < n1
      · have g3 : decide (i < n1) = true := by simp; omega
        have g4 : decide ((i : Int) < 40) = false := by simp; omega
        clear hin
        go_wp2_with fail
        refine (tmem_c w.heap.size b F (List.replicate k []) [(nn : Int)] wr HF.out (by simp)).mono ?_
        rintro ev w3 ⟨u, rfl, hu, hb3⟩
        have HB3 := Lib.hid (HB.out.trans (hb3.mono HB.out.size))
        obtain ⟨gu, ou, cu, hue, _, _, hgu, hcu⟩ := hu.form (by simp)
        have e1 := hcu 0 (.int .u32 nn) rfl
        rw [Nat.add_zero] at e1
        subst u
        clear hu hcu hb3
        go_wp2_with fail
        refine (tsoRuns A _ (HS.out.below HB3.out)).mono ?_
        rintro ev w4 ⟨rfl, hb4⟩
        go_wp2_with fail
        go_ret
        exact ⟨rfl, HB3.out.trans (hb4.mono HB3.out.size)⟩
      · have g3 : decide (i < n1) = false := by simp; omega
        clear hin
        go_wp2_with fail
        refine (tmem_c w.heap.size b F (List.replicate k []) [(nn : Int)] wr HF.out (by simp)).mono ?_
        rintro ev w3 ⟨u, rfl, hu, hb3⟩
        have HB3 := Lib.hid (HB.out.trans (hb3.mono HB.out.size))
        obtain ⟨gu, ou, cu, hue, _, _, hgu, hcu⟩ := hu.form (by simp)
        have e1 := hcu 0 (.int .u32 nn) rfl
        rw [Nat.add_zero] at e1
        subst u
        clear hu hcu hb3
        go_wp2_with fail
        refine (tsoRuns A _ (HS.out.below HB3.out)).mono ?_
        rintro ev w4 ⟨rfl, hb4⟩
        go_wp2_with fail
        go_ret
        exact ⟨rfl, HB3.out.trans (hb4.mono HB3.out.size)⟩

end Go.Proofs.YtamklohnmbgklaaDoor
