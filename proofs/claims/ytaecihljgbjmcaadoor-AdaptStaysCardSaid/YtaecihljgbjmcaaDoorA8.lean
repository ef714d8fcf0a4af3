/- AdaptStays: the walk. -/
import Derived.Test.YtaecihljgbjmcaaDoorA7
namespace Go.Proofs.YtaecihljgbjmcaaDoor
open Go.RowKit

set_option maxRecDepth 100000 in
set_option maxHeartbeats 4000000 in
theorem adaptStays (high low mode : Int) (v : Value) (n : Nat) (g : Nat → Nat → Int) (w : World) (hl : AsksAt w v n g) (b1 : -9223372036854775808 ≤ high ∧ high ≤ 9223372036854775807)
    (b2 : -9223372036854775808 ≤ low ∧ low ≤ 9223372036854775807) (b3 : -9223372036854775808 ≤ mode ∧ mode ≤ 9223372036854775807) :
    Calls Tryd.prog 4 #[.int .i64 high, .int .i64 low, v, .int .i64 mode] w (TruePost w) := by
  have hlen := hl.len
  unfold maxLen at hlen
  rcases hl.shape with ⟨p, cap, rfl, rfl⟩ | ⟨b, off, cap, rfl, hbw, hcell⟩
  · skip
    clear hl hlen
    go_enter Tryd.func4, Tryd.ntmps4
    go_wp2_with fail
    refine (Within_b _ _ _ _ (by omega) (by omega) (by omega) b1.1 b1.2).mono ?_
    rintro e w' ⟨rfl, rfl⟩
    have hb := wiF_b (n := high) (lo := 1) (hi := 14) (by omega)
    generalize wiF high 1 14 = h at *
    go_wp2_with fail
    refine (Within_b _ _ _ _ (by omega) (by omega) (by omega) b2.1 b2.2).mono ?_
    rintro e w' ⟨rfl, rfl⟩
    have hbl := wiF_b (n := low) (lo := 0) (hi := h - 1) (by omega)
    generalize wiF low 0 (h - 1) = lo at *
    go_wp2_with fail
    refine (new_ok _ _ _ (by omega) (by omega) (by omega) (by omega)).mono ?_
    rintro e w1 ⟨rfl, _, hlt, hB⟩
    go_wp2_with fail
    refine (Within_b _ _ _ _ (by omega) (by omega) (by omega) b3.1 b3.2).mono ?_
    rintro e w' ⟨rfl, rfl⟩
    generalize wiF mode 0 3 = m0 at *
    go_wp2_with fail
    go_loopw [13] (fun i wr => i = .int .i64 0 ∧ w.heap.size < wr.heap.size ∧ Below w.heap.size w wr) (fun _ _ => 0)
    case atStart => exact ⟨rfl, hlt, hB⟩
    case round =>
      obtain ⟨rfl, hltk, hBk⟩ := hrel
      go_wp2_with fail
      refine (adaptRuns _).mono ?_
      rintro e w2 ⟨rfl, hR⟩
      go_wp2_with fail
      go_ret
      exact ⟨rfl, hBk.trans (hR.mono (by omega))⟩
  have HN := hl.num
  clear hl
  go_enter Tryd.func4, Tryd.ntmps4
  go_wp2_with fail
  refine (Within_b _ _ _ _ (by omega) (by omega) (by omega) b1.1 b1.2).mono ?_
  rintro e w' ⟨rfl, rfl⟩
  have hb := wiF_b (n := high) (lo := 1) (hi := 14) (by omega)
  generalize wiF high 1 14 = h at *
  go_wp2_with fail
  refine (Within_b _ _ _ _ (by omega) (by omega) (by omega) b2.1 b2.2).mono ?_
  rintro e w' ⟨rfl, rfl⟩
  have hbl := wiF_b (n := low) (lo := 0) (hi := h - 1) (by omega)
  generalize wiF low 0 (h - 1) = lo at *
  go_wp2_with fail
  refine (new_ok _ _ _ (by omega) (by omega) (by omega) (by omega)).mono ?_
  rintro e w1 ⟨rfl, hA, hlt, hB⟩
  go_wp2_with fail
  refine (Within_b _ _ _ _ (by omega) (by omega) (by omega) b3.1 b3.2).mono ?_
  rintro e w' ⟨rfl, rfl⟩
  have hbm := wiF_b (n := mode) (lo := 0) (hi := 3) (by omega)
  generalize wiF mode 0 3 = m0 at *
  go_wp2_with fail
  go_loopw [12, 13] (fun mm i wr => ∃ (k : Nat) (C : Nat → Int) (m : Int), k ≤ n ∧ k ≤ 80 ∧ i = .int .i64 k ∧ mm = .int .i64 m ∧ 0 ≤ m ∧ m ≤ 3 ∧ AdaptAt wr w.heap.size C ∧ OkC C ∧ C 0 = h ∧ w.heap.size < wr.heap.size ∧ Below w.heap.size w wr) (fun _ i _ => 80 - (intOf i).toNat)
  case atStart => exact ⟨0, newC h lo, m0, by omega, by omega, rfl, rfl, hbm.1, hbm.2, hA, OkC.new _ _, rfl, hlt, hB⟩
  case round =>
    obtain ⟨k, C, m, hk, hk80, rfl, rfl, hm0, hm3, hAk, hOk, hC0, hltk, hBk⟩ := hrel
    by_cases hlt2 : k < n ∧ k < 80
    · obtain ⟨hkn, hk8⟩ := hlt2
      have hn0 := HN k 0 hkn (by omega)
      have hn1 := HN k 1 hkn (by omega)
      have hn2 := HN k 2 hkn (by omega)
      have hn3 := HN k 3 hkn (by omega)
      have c0 : wr.cell? ⟨b, off + k * 4, none⟩ = some (.int .i64 (g k 0)) := (hBk.cell (p := ⟨b, off + k * 4, none⟩) hbw).trans (hcell k 0 hkn (by omega))
      have HC0 := Lib.hid hC0
      clear hC0
      go_wp2_with fail
      refine (Within_b _ _ _ _ (by omega) (by omega) (by omega) hn0.1 hn0.2).mono ?_
      rintro e w' ⟨rfl, rfl⟩
      have hbl2 := wiF_b (n := g k 0) (lo := 0) (hi := 7) (by omega)
      generalize wiF (g k 0) 0 7 = line at *
      clear c0
      go_wp2_with fail
      refine (counts_ok _ _ 5 _ hAk (by omega)).mono ?_
      rintro e w' ⟨rfl, rfl⟩
      go_wp2_with fail
      have hmet : ∀ w2 : World, Below w.heap.size w w2 → (∀ j, j < 4 → w2.cell? ⟨b, off + k * 4 + j, none⟩ = some (.int .i64 (g k j))) := fun w2 h2 j hj => (h2.cell (p := ⟨b, off + k * 4 + j, none⟩) hbw).trans (hcell k j hkn hj)
      refine wp_region_lexA ⟨[19], [76]⟩ (fun w2 => Below w.heap.size w w2) (by kernel_rfl) (by kernel_rfl) hBk.drew.drew ?_
      intro S hto hof hne
      have hx1 : ∀ x : Wd S, x.w.cell? ⟨b, off + k * 4 + 1, none⟩ = some (.int .i64 (g k 1)) := fun x => hmet _ (hto x) 1 (by omega)
      have hx2 : ∀ x : Wd S, x.w.cell? ⟨b, off + k * 4 + 2, none⟩ = some (.int .i64 (g k 2)) := fun x => hmet _ (hto x) 2 (by omega)
      have hx3 : ∀ x : Wd S, x.w.cell? ⟨b, off + k * 4 + 3, none⟩ = some (.int .i64 (g k 3)) := fun x => hmet _ (hto x) 3 (by omega)
      have Hof := Lib.hid hof
      have Hto := Lib.hid hto
      have Hmet := Lib.hid hmet
      clear hto hof hmet
      refine lexW_light 2 (by kernel_rfl) ?_
      simp only [List.take_succ_cons, List.take_zero, List.drop_succ_cons, List.drop_zero]
      repeat (first | go_big_quiet_skip | (go_big_quiet_want; go_big_quiet_op; go_big_quiet_on))
      refine wpQuiet_nil ?_
      refine lexW_heavy (by kernel_rfl) ?_
      go_wp2_with fail
      refine lexQ_more (Hof.out _ ?_) ?_
      · exact (hBk.alloc (by omega) _).drew.drew
      have hB2 : Below w.heap.size w (wr.alloc (.cells #[.int .i64 1, .int .i64 2, .int .i64 3] 3)).drew.drew := (hBk.alloc (by omega) _).drew.drew
      have hA2 : AdaptAt (wr.alloc (.cells #[.int .i64 1, .int .i64 2, .int .i64 3] 3)).drew.drew w.heap.size C := (hAk.below ((Below.refl wr.heap.size wr).alloc (Nat.le_refl _) (.cells #[.int .i64 1, .int .i64 2, .int .i64 3] 3)) hAk.lt).drewN 2
      have hq : ∀ q : Int, 0 ≤ q → q ≤ 2 → (wr.alloc (.cells #[.int .i64 1, .int .i64 2, .int .i64 3] 3)).drew.drew.cell? ⟨wr.heap.size, q.toNat, none⟩ = some (.int .i64 (q + 1)) := fun q h0 h2 => by
        refine (World.cell?_alloc_new wr #[.int .i64 1, .int .i64 2, .int .i64 3] 3 q.toNat).trans ?_
        obtain rfl | rfl | rfl : q = 0 ∨ q = 1 ∨ q = 2 := by omega
        all_goals rfl
      have hlt3 : w.heap.size < (wr.alloc (.cells #[.int .i64 1, .int .i64 2, .int .i64 3] 3)).drew.drew.heap.size := by simp; omega
      generalize (wr.alloc (.cells #[.int .i64 1, .int .i64 2, .int .i64 3] 3)).drew.drew = w2 at *
      refine lexW_light 5 (by kernel_rfl) ?_
      simp only [List.take_succ_cons, List.take_zero, List.drop_succ_cons, List.drop_zero]
      repeat (first | go_big_quiet_skip | (go_big_quiet_want; go_big_quiet_op; go_big_quiet_on))
      refine wpQuiet_nil ?_
      refine lexW_pure (by kernel_rfl) (by rfl) rfl Tryd.func19 rfl (by kernel_rfl) (fun x => Within_b (g k 1) 0 2 x.w (by omega) (by omega) (by omega) hn1.1 hn1.2) (by go_simp) ?_
      simp only [Act.put, List.setIfInBounds_toArray, List.set_cons_zero, List.set_cons_succ]
      have hb1 := wiF_b (n := g k 1) (lo := 0) (hi := 2) (by omega)
      generalize wiF (g k 1) 0 2 = q1 at *
      have hq1 := hq q1 hb1.1 hb1.2
      clear hq
      refine lexW_light 1 (by kernel_rfl) ?_
      simp only [List.take_succ_cons, List.take_zero, List.drop_succ_cons, List.drop_zero]
      repeat (first | go_big_quiet_skip | (go_big_quiet_want; go_big_quiet_op; go_big_quiet_on))
      refine wpQuiet_nil ?_
      refine lexW_heavy (by kernel_rfl) ?_
      go_wp2_with fail
      refine lexQ_more (Hof.out _ ?_) ?_
      · exact hB2
      refine lexW_light 5 (by kernel_rfl) ?_
      simp only [List.take_succ_cons, List.take_zero, List.drop_succ_cons, List.drop_zero]
      repeat (first | go_big_quiet_skip | (go_big_quiet_want; go_big_quiet_op; go_big_quiet_on))
      refine wpQuiet_nil ?_
      refine lexW_pure (by kernel_rfl) (by rfl) rfl Tryd.func19 rfl (by kernel_rfl) (fun x => Within_b (g k 2) 0 3 x.w (by omega) (by omega) (by omega) hn2.1 hn2.2) (by go_simp) ?_
      simp only [Act.put, List.setIfInBounds_toArray, List.set_cons_zero, List.set_cons_succ]
      have hb2 := wiF_b (n := g k 2) (lo := 0) (hi := 3) (by omega)
      generalize wiF (g k 2) 0 3 = q2 at *
      refine lexW_light 5 (by kernel_rfl) ?_
      simp only [List.take_succ_cons, List.take_zero, List.drop_succ_cons, List.drop_zero]
      repeat (first | go_big_quiet_skip | (go_big_quiet_want; go_big_quiet_op; go_big_quiet_on))
      refine wpQuiet_nil ?_
      refine lexW_pure (by kernel_rfl) (by rfl) rfl Tryd.func19 rfl (by kernel_rfl) (fun x => Within_b (g k 3) 0 4 x.w (by omega) (by omega) (by omega) hn3.1 hn3.2) (by go_simp) ?_
      simp only [Act.put, List.setIfInBounds_toArray, List.set_cons_zero, List.set_cons_succ]
      have hb3 := wiF_b (n := g k 3) (lo := 0) (hi := 4) (by omega)
      generalize wiF (g k 3) 0 4 = q3 at *
      refine lexW_heavy (by kernel_rfl) ?_
      go_wp2_with fail
      refine (note_any _ _ _ _ _ _ _ hA2 hOk).mono ?_
      rintro e w3 ⟨rfl, hA3, hG3⟩
      go_wp2_with fail
      have hG2 : Below w.heap.size w w3 := hB2.grown hG3 (by omega) (fun k hk => by injection hk with hk; omega)
      have hlt4 : w.heap.size < w3.heap.size := by have := hG3.size; omega
      refine lexQ_done (Hof.out _ hG2) ?_
      have hOk3 := hOk.note line (q1 + 1) q2 q3
      have e0 : noteC C line (q1 + 1) q2 q3 0 = C 0 := noteC_far (.inl (by omega))
      have e27 : noteC C line (q1 + 1) q2 q3 27 = C 27 := noteC_far (.inr ⟨5, 0, by omega, by omega, by omega⟩)
      have e28 : noteC C line (q1 + 1) q2 q3 28 = C 28 := noteC_far (.inr ⟨5, 1, by omega, by omega, by omega⟩)
      have e29 : noteC C line (q1 + 1) q2 q3 29 = C 29 := noteC_far (.inr ⟨5, 2, by omega, by omega, by omega⟩)
      have E0 := Lib.hid (e0.trans HC0.out)
      have E27 := Lib.hid e27
      have E28 := Lib.hid e28
      have E29 := Lib.hid e29
      clear e0 e27 e28 e29 hA2 hB2 hlt3 hq1
      generalize noteOk line (q1 + 1) q2 q3 = ok at *
      generalize noteC C line (q1 + 1) q2 q3 = C3 at *
      go_wp2_with fail
      refine (counts_any _ _ _ _ hA3 (by omega) (by omega)).mono ?_
      rintro e w' ⟨rfl, rfl⟩
      have d0 := hOk3 (line / 4).toNat (by omega) 0 (by omega)
      have d1 := hOk3 (line / 4).toNat (by omega) 1 (by omega)
      have d2 := hOk3 (line / 4).toNat (by omega) 2 (by omega)
      have hpr : ∀ m, 0 ≤ m → m ≤ 3 → pickR C3 line m = pickF C3 (line / 4).toNat m := fun m h0 h3 => by rw [pickR, if_pos (by omega)]
      have hcalm := @pickF_calm C3 (line / 4).toNat m
      rw [E0.out] at hcalm
      have hin := @pickF_in C3 (line / 4).toNat m hm0 hm3
      have hag := Lib.hid (pickF_again C3 (line / 4).toNat m)
      have Hcalm := Lib.hid hcalm
      have Hpr := Lib.hid hpr
      clear hcalm hpr
      generalize hnx : pickF C3 (line / 4).toNat m = nx at *
      have Hnx := Lib.hid hnx
      clear hnx
      rw [show 2 + (line / 4).toNat * 5 + 0 = 2 + (line / 4).toNat * 5 from rfl] at d0
      generalize C3 (2 + (line / 4).toNat * 5) = x at *
      generalize C3 (2 + (line / 4).toNat * 5 + 1) = y at *
      generalize C3 (2 + (line / 4).toNat * 5 + 2) = z at *
      go_wp2_with fail
      refine (counts_ok _ _ 5 _ (hA3.drewN 1) (by omega)).mono ?_
      rintro e w' ⟨rfl, rfl⟩
      rw [show 2 + 5 * 5 = 27 from rfl, show 27 + 1 = 28 from rfl, show 27 + 2 = 29 from rfl, E27.out, E28.out, E29.out]
      go_wp2_with fail
      refine (pick_any _ _ _ _ _ (hA3.drewN 2)).mono ?_
      rintro e w4 ⟨rfl, hB4⟩
      rw [Hpr.out m hm0 hm3, Hnx.out]
      have hA4 := (hA3.drewN 2).below hB4 (hA3.drewN 2).lt
      have hB5 : Below w.heap.size w w4 := hG2.trans (Below.trans (Below.refl _ w3).drew.drew (hB4.mono (by show _ ≤ w3.heap.size; omega)))
      have hlt5 : w.heap.size < w4.heap.size := by have := hB4.size; have : w3.heap.size ≤ w4.heap.size := this; omega
      go_wp2_with fail
      refine (pick_any _ _ _ _ _ hA4).mono ?_
      rintro e w5 ⟨rfl, hB6⟩
      rw [Hpr.out nx (by omega) (by omega), show pickF C3 (line / 4).toNat nx = nx by exact hag.out]
      have hA5 := hA4.below hB6 hA4.lt
      have hB7 : Below w.heap.size w w5 := hB5.trans (hB6.mono (by omega))
      have hlt7 : w.heap.size < w5.heap.size := by have := hB6.size; omega
      clear hA4 hB5 hB6 hA3 hG3 hB4
      by_cases t1 : nx = m
      · have t2 : (nx != m) = false := by simp [t1]
        clear t1
        go_wp2_with fail
        go_roundw
        case rel => exact ⟨k + 1, C3, nx, by omega, by omega, by go_num, rfl, by omega, by omega, hA5, hOk3, E0.out, hlt7, hB7⟩
        case measure => simp [intOf]; omega
      · have t2 : (nx != m) = true := by simp [t1]
        by_cases t3 : x < h ∧ y < h ∧ z < h
        · have t4 : (nx != 0) = false := by
            rcases Hcalm.out t3.1 t3.2.1 t3.2.2 with h | h
            · simp [h]
            · exact absurd h t1
          clear t1
          go_wp2_with fail
          go_roundw
          case rel => exact ⟨k + 1, C3, nx, by omega, by omega, by go_num, rfl, by omega, by omega, hA5, hOk3, E0.out, hlt7, hB7⟩
          case measure => simp [intOf]; omega
        · have t4 : h ≤ max (max x y) z := by omega
          have t5 : decide (max (max x y) z < h) = false := by simp; omega
          clear t1 t3
          go_wp2_with fail
          go_roundw
          case rel => exact ⟨k + 1, C3, nx, by omega, by omega, by go_num, rfl, by omega, by omega, hA5, hOk3, E0.out, hlt7, hB7⟩
          case measure => simp [intOf]; omega
    · have hor : n ≤ k ∨ (k < n ∧ 80 ≤ k) := by omega
      clear hlt2
      rcases hor with hnk | ⟨hnk, hk8⟩
      all_goals
        go_wp2_with fail
        refine (adaptRuns _).mono ?_
        rintro e w2 ⟨rfl, hR⟩
        go_wp2_with fail
        go_ret
        exact ⟨rfl, hBk.trans (hR.mono (by omega))⟩

end Go.Proofs.YtaecihljgbjmcaaDoor
