/- BufferBound: true; no condition but what a start gives. -/
import Derived.Test.YteljpfbfkpdchaaDoorLBuf1
import Derived.Test.YteljpfbfkpdchaaDoorBuf4
import Derived.Test.YteljpfbfkpdchaaDoorBk
import Derived.Test.YteljpfbfkpdchaaDoorInts
namespace Go.Proofs.YteljpfbfkpdchaaDoor
open Go.RowKit Go.Extern.Stop Go.Stop Go.Extern

theorem pushE_no {n a : Int} {L : List (Int × Int)} (h : ¬ (0 ≤ a ∧ a < 128 ∧ (L.length : Int) < n)) : (pushE n L a).isNil = false := by
  unfold pushE
  split
  · rw [if_neg (by omega)]
    rfl
  · rfl
theorem bpush_no (A : Nat → Addr) (b : Nat) (v : Value) (n a x : Int) (L : List (Int × Int)) (w : World) (hs : SentAt w A) (hB : BufAt w b v n L) (h : ¬ (0 ≤ a ∧ a < 128 ∧ (L.length : Int) < n)) :
    Calls Tryd.prog 15 #[.pointer (some ⟨b, 0, none⟩), .int .i64 a, .int .u32 x] w fun ev w' => ev = .returned ((pushE n L a).val A) ∧ Below w.heap.size w w' := by
  by_cases h1 : a < 0 ∨ 128 ≤ a
  · refine (bpush_bad A b n a x L w hs h1).mono ?_
    rintro ev w' ⟨rfl, rfl⟩
    exact ⟨rfl, Below.refl _ _⟩
  · exact bpush_full A b v n a x L w hs hB (by omega) (by omega)

set_option maxRecDepth 100000 in
set_option maxHeartbeats 4000000 in
theorem bufferBound (A : Nat → Addr) (z0 : Int) (v1 : Value) (n1 : Nat) (g : Nat → Int) (w : World) (hs : SentAt w A) (b0 : -9223372036854775808 ≤ z0 ∧ z0 ≤ 9223372036854775807) (h1 : IntsAt .i64 w v1 n1 g) :
    Calls Tryd.prog 6 #[.int .i64 z0, v1] w (TruePost w) := by
  obtain ⟨p1, cap0, rfl, hel⟩ := h1.form
  have HEL := Lib.hid hel
  have hn1 := h1.len
  unfold maxLen at hn1
  clear hel h1
  go_enter Tryd.func6, Tryd.ntmps6
  go_wp2_with fail
  refine (Within_b z0 1 8 _ (by omega) (by omega) (by omega) b0.1 b0.2).mono ?_
  rintro ev w' ⟨rfl, rfl⟩
  have hn := wiF_b (n := z0) (lo := 1) (hi := 8) (by omega)
  generalize wiF z0 1 8 = n at hn ⊢
  go_wp2_with fail
  refine (bnew_ok n _ (by omega) (by omega)).mono ?_
  rintro ev w1 ⟨rfl, hA1, hB1⟩
  go_wp2_with fail
  go_loopw [8] (fun i wr => ∃ (k : Nat) (vb : Value) (L : List (Int × Int)), k ≤ 40 ∧ i = .int .i64 k ∧ BufAt wr w.heap.size vb n L ∧ (L.length : Int) ≤ n ∧ Below w.heap.size w wr) (fun i _ => 40 - (intOf i).toNat)
  case atStart => exact ⟨0, _, _, by omega, rfl, hA1, by simp; omega, hB1⟩
  case round =>
    clear hA1 hB1
    obtain ⟨k, vb, L, hk, rfl, hA, hL, hB⟩ := hrel
    by_cases hk40 : k < 40
    · by_cases hkn : k < n1
      · obtain ⟨ba, oa, rfl, hba, hca⟩ := HEL.out k hkn
        generalize g k = a at hca
        go_wp2_with fail
        refine (blist_c _ vb n L wr hA (by omega)).mono ?_
        rintro ev w2 ⟨u2, rfl, hu2, hb2⟩
        have hA2 := hA.below hb2
        have hB2 := hB.trans (hb2.mono hB.size)
        obtain ⟨ad2, cap2, rfl⟩ := hu2.len
        have hbl := hA.lt
        have hvl : ∀ q, vb.ownBlock = some q → q < wr.heap.size := fun q h => (hA.row.lt q h).2
        have hca2 := (hB2.cell (p := ⟨ba, _, none⟩) hba).trans hca
        clear hA hb2
        by_cases hfit : 0 ≤ a ∧ a < 128 ∧ (L.length : Int) < n
        · obtain ⟨f1, f2, f3⟩ := hfit
          have g1 : decide (a ≥ 0) = true := by simpa using f1
          have g2 : decide (a < 128) = true := by simpa using f2
          have g3 : decide ((L.length : Int) < n) = true := by simpa using f3
          go_wp2_with fail
          refine (bpush_ok A w.heap.size vb n a _ L w2 hA2 ⟨f1, f2⟩ f3 (by omega)).mono ?_
          rintro ev w3 ⟨rfl, v3, hA3, hM3, hO3⟩
          have hB3 := hB2.trans (hA2.mods_below hM3 (Nat.le_refl _))
          have hu3 : winRow w3 wr.heap.size 32 2 (.slice ad2 L.length cap2) L.length (flatW L) := hu2.keep fun q hq => hM3.block q (hu2.lt q hq).2 fun h => by
            have := (hu2.lt q hq).1
            rcases h with h | h
            · omega
            · have := hvl q h
              omega
          have hca3 := (hB3.cell (p := ⟨ba, _, none⟩) hba).trans hca
          clear hA2 hM3 hO3 hca2 hu2 hvl
          go_wp2_with fail
          refine (blist_c _ v3 n _ w3 hA3 (by simp; omega)).mono ?_
          rintro ev w4 ⟨u4, rfl, hu4, hb4⟩
          have hA4 := hA3.below hb4
          have hu34 := hu3.below hb4
          have hB4 := hB3.trans (hb4.mono hB3.size)
          have hlen4 : (L ++ [(a, (k : Int))]).length = L.length + 1 := by simp
          have HS4 := Lib.hid hu4.slc
          rw [hlen4] at hu4
          obtain ⟨ad4, off4, cap4, rfl, hcap4, _, _, _⟩ := hu4.form (by omega)
          have hca4 := (hB4.cell (p := ⟨ba, _, none⟩) hba).trans hca
          have HS3 := Lib.hid hu34.slc
          have hs4 := hs.below hB4
          clear hA3 hb4 hca3 hu3 hu34 hu4
          go_wp2_with fail
          refine (sameW_c L _ _ _ ?_ HS3.out (by omega)).mono ?_
          · have := slc.take (l := L) (r := [(a, (k : Int))]) (by rw [hlen4]; exact hlen4 ▸ HS4.out)
            exact this
          rintro ev w5 ⟨rfl, hb5⟩
          have hA5 := hA4.below hb5
          have hB5 := hB4.trans (hb5.mono hB4.size)
          clear hA4 hb5 hca4 hs4
          go_wp2_with fail
          · have g4 : decide (0 < (L ++ [(a, (k : Int))]).length) = true := by simp
            have g5 : decide (((L.length + 1 : Nat) : Int) > 0) = true := by simp
            refine (bpop_c w.heap.size v3 n _ w5 hA5 (by simp; omega)).mono ?_
            rintro ev w6 ⟨rfl, v6, hA6, hM6, hO6⟩
            have hB6 := hB5.trans (hA5.mods_below hM6 (Nat.le_refl _))
            rw [g4]
            clear hA5 hM6 hO6
            go_wp2_with fail
            exact ⟨⟨k + 1, v6, _, by omega, rfl, hA6, by simp; omega, hB6⟩, by simp [intOf]; omega⟩
          · exact ⟨⟨k + 1, v3, _, by omega, rfl, hA5, by simp; omega, hB5⟩, by simp [intOf]; omega⟩
        · by_cases f1 : 0 ≤ a
          · by_cases f2 : a < 128
            · have f3 : n ≤ (L.length : Int) := by omega
              have g1 : decide (a ≥ 0) = true := by simpa using f1
              have g2 : decide (a < 128) = true := by simpa using f2
              have g3 : decide ((L.length : Int) < n) = false := by simpa using f3
              go_wp2_with fail
              refine (bpush_no A w.heap.size vb n a _ L w2 (hs.below hB2) hA2 (by omega)).mono ?_
              rintro ev w3 ⟨rfl, hb3⟩
              have hpn : (pushE n L a).isNil = false := pushE_no (by omega)
              obtain ⟨t3, e3, hev⟩ := (pushE n L a).val_iface A hpn
              have hnil := fun w => run_eql_iface_nil (P := Tryd.prog) (w := w) 24 (by kernel_rfl) t3 e3
              rw [hev]
              clear hev hpn
              have hA3 := hA2.below hb3
              have hB3 := hB2.trans (hb3.mono hB2.size)
              have hu3 := hu2.below hb3
              have hca3 := (hB3.cell (p := ⟨ba, _, none⟩) hba).trans hca
              clear hA2 hb3 hca2 hu2 hvl
              go_wp2_with fail
              refine (blist_c _ vb n _ w3 hA3 (by omega)).mono ?_
              rintro ev w4 ⟨u4, rfl, hu4, hb4⟩
              have hA4 := hA3.below hb4
              have hu34 := hu3.below hb4
              have hB4 := hB3.trans (hb4.mono hB3.size)
              have HS4 := Lib.hid hu4.slc
              obtain ⟨ad4, cap4, rfl⟩ := hu4.len
              have hca4 := (hB4.cell (p := ⟨ba, _, none⟩) hba).trans hca
              have HS3 := Lib.hid hu34.slc
              clear hA3 hb4 hca3 hu3 hu34 hu4
              go_wp2_with fail
              refine (sameW_c L _ _ _ HS4.out HS3.out (by omega)).mono ?_
              rintro ev w5 ⟨rfl, hb5⟩
              have hA5 := hA4.below hb5
              have hB5 := hB4.trans (hb5.mono hB4.size)
              clear hA4 hb5 hca4
              go_wp2_with fail
              · refine (bpop_c w.heap.size vb n _ w5 hA5 (by omega)).mono ?_
                rintro ev w6 ⟨rfl, v6, hA6, hM6, hO6⟩
                have hB6 := hB5.trans (hA5.mods_below hM6 (Nat.le_refl _))
                have hpos : decide (((L.length : Nat) : Int) > 0) = decide (0 < L.length) := decide_eq_decide.2 (by omega)
                clear hA5 hM6 hO6
                cases hb : decide (0 < L.length) <;> rw [hb] at hpos
                · go_wp2_with fail
                  exact ⟨⟨k + 1, v6, _, by omega, rfl, hA6, by simp; omega, hB6⟩, by simp [intOf]; omega⟩
                · go_wp2_with fail
                  exact ⟨⟨k + 1, v6, _, by omega, rfl, hA6, by simp; omega, hB6⟩, by simp [intOf]; omega⟩
              · exact ⟨⟨k + 1, vb, _, by omega, rfl, hA5, by omega, hB5⟩, by simp [intOf]; omega⟩
            · have g1 : decide (a ≥ 0) = true := by simpa using f1
              have g2 : decide (a < 128) = false := by simpa using f2
              go_wp2_with fail
              refine (bpush_no A w.heap.size vb n a _ L w2 (hs.below hB2) hA2 (by omega)).mono ?_
              rintro ev w3 ⟨rfl, hb3⟩
              have hpn : (pushE n L a).isNil = false := pushE_no (by omega)
              obtain ⟨t3, e3, hev⟩ := (pushE n L a).val_iface A hpn
              have hnil := fun w => run_eql_iface_nil (P := Tryd.prog) (w := w) 24 (by kernel_rfl) t3 e3
              rw [hev]
              clear hev hpn
              have hA3 := hA2.below hb3
              have hB3 := hB2.trans (hb3.mono hB2.size)
              have hu3 := hu2.below hb3
              have hca3 := (hB3.cell (p := ⟨ba, _, none⟩) hba).trans hca
              clear hA2 hb3 hca2 hu2 hvl
              go_wp2_with fail
              refine (blist_c _ vb n _ w3 hA3 (by omega)).mono ?_
              rintro ev w4 ⟨u4, rfl, hu4, hb4⟩
              have hA4 := hA3.below hb4
              have hu34 := hu3.below hb4
              have hB4 := hB3.trans (hb4.mono hB3.size)
              have HS4 := Lib.hid hu4.slc
              obtain ⟨ad4, cap4, rfl⟩ := hu4.len
              have hca4 := (hB4.cell (p := ⟨ba, _, none⟩) hba).trans hca
              have HS3 := Lib.hid hu34.slc
              clear hA3 hb4 hca3 hu3 hu34 hu4
              go_wp2_with fail
              refine (sameW_c L _ _ _ HS4.out HS3.out (by omega)).mono ?_
              rintro ev w5 ⟨rfl, hb5⟩
              have hA5 := hA4.below hb5
              have hB5 := hB4.trans (hb5.mono hB4.size)
              clear hA4 hb5 hca4
              go_wp2_with fail
              · refine (bpop_c w.heap.size vb n _ w5 hA5 (by omega)).mono ?_
                rintro ev w6 ⟨rfl, v6, hA6, hM6, hO6⟩
                have hB6 := hB5.trans (hA5.mods_below hM6 (Nat.le_refl _))
                have hpos : decide (((L.length : Nat) : Int) > 0) = decide (0 < L.length) := decide_eq_decide.2 (by omega)
                clear hA5 hM6 hO6
                cases hb : decide (0 < L.length) <;> rw [hb] at hpos
                · go_wp2_with fail
                  exact ⟨⟨k + 1, v6, _, by omega, rfl, hA6, by simp; omega, hB6⟩, by simp [intOf]; omega⟩
                · go_wp2_with fail
                  exact ⟨⟨k + 1, v6, _, by omega, rfl, hA6, by simp; omega, hB6⟩, by simp [intOf]; omega⟩
              · exact ⟨⟨k + 1, vb, _, by omega, rfl, hA5, by omega, hB5⟩, by simp [intOf]; omega⟩
          · have g1 : decide (a ≥ 0) = false := by simpa using f1
            go_wp2_with fail
            refine (bpush_no A w.heap.size vb n a _ L w2 (hs.below hB2) hA2 (by omega)).mono ?_
            rintro ev w3 ⟨rfl, hb3⟩
            have hpn : (pushE n L a).isNil = false := pushE_no (by omega)
            obtain ⟨t3, e3, hev⟩ := (pushE n L a).val_iface A hpn
            have hnil := fun w => run_eql_iface_nil (P := Tryd.prog) (w := w) 24 (by kernel_rfl) t3 e3
            rw [hev]
            clear hev hpn
            have hA3 := hA2.below hb3
            have hB3 := hB2.trans (hb3.mono hB2.size)
            have hu3 := hu2.below hb3
            have hca3 := (hB3.cell (p := ⟨ba, _, none⟩) hba).trans hca
            clear hA2 hb3 hca2 hu2 hvl
            go_wp2_with fail
            refine (blist_c _ vb n _ w3 hA3 (by omega)).mono ?_
            rintro ev w4 ⟨u4, rfl, hu4, hb4⟩
            have hA4 := hA3.below hb4
            have hu34 := hu3.below hb4
            have hB4 := hB3.trans (hb4.mono hB3.size)
            have HS4 := Lib.hid hu4.slc
            obtain ⟨ad4, cap4, rfl⟩ := hu4.len
            have hca4 := (hB4.cell (p := ⟨ba, _, none⟩) hba).trans hca
            have HS3 := Lib.hid hu34.slc
            clear hA3 hb4 hca3 hu3 hu34 hu4
            go_wp2_with fail
            refine (sameW_c L _ _ _ HS4.out HS3.out (by omega)).mono ?_
            rintro ev w5 ⟨rfl, hb5⟩
            have hA5 := hA4.below hb5
            have hB5 := hB4.trans (hb5.mono hB4.size)
            clear hA4 hb5 hca4
            go_wp2_with fail
            · refine (bpop_c w.heap.size vb n _ w5 hA5 (by omega)).mono ?_
              rintro ev w6 ⟨rfl, v6, hA6, hM6, hO6⟩
              have hB6 := hB5.trans (hA5.mods_below hM6 (Nat.le_refl _))
              have hpos : decide (((L.length : Nat) : Int) > 0) = decide (0 < L.length) := decide_eq_decide.2 (by omega)
              clear hA5 hM6 hO6
              cases hb : decide (0 < L.length) <;> rw [hb] at hpos
              · go_wp2_with fail
                exact ⟨⟨k + 1, v6, _, by omega, rfl, hA6, by simp; omega, hB6⟩, by simp [intOf]; omega⟩
              · go_wp2_with fail
                exact ⟨⟨k + 1, v6, _, by omega, rfl, hA6, by simp; omega, hB6⟩, by simp [intOf]; omega⟩
            · exact ⟨⟨k + 1, vb, _, by omega, rfl, hA5, by omega, hB5⟩, by simp [intOf]; omega⟩
      · go_wp2_with fail
        refine (bufferRuns A wr (hs.below hB)).mono ?_
        rintro ev w2 ⟨rfl, hb2⟩
        go_wp2_with fail
        go_ret
        exact ⟨rfl, hB.trans (hb2.mono hB.size)⟩
    · by_cases hkn : k < n1
      · go_wp2_with fail
        refine (bufferRuns A wr (hs.below hB)).mono ?_
        rintro ev w2 ⟨rfl, hb2⟩
        go_wp2_with fail
        go_ret
        exact ⟨rfl, hB.trans (hb2.mono hB.size)⟩
      · go_wp2_with fail
        refine (bufferRuns A wr (hs.below hB)).mono ?_
        rintro ev w2 ⟨rfl, hb2⟩
        go_wp2_with fail
        go_ret
        exact ⟨rfl, hB.trans (hb2.mono hB.size)⟩

end Go.Proofs.YteljpfbfkpdchaaDoor
