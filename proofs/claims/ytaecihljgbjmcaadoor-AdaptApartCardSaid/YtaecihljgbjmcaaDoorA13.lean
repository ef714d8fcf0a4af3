/- AdaptApart: the walk. -/
import Derived.Test.YtaecihljgbjmcaaDoorA10
namespace Go.Proofs.YtaecihljgbjmcaaDoor
open Go.RowKit

set_option maxRecDepth 100000 in
set_option maxHeartbeats 4000000 in
theorem adaptApart (area other mode : Int) (v : Value) (n : Nat) (g : Nat → Nat → Int) (w : World) (b1 : -9223372036854775808 ≤ area ∧ area ≤ 9223372036854775807)
    (b2 : -9223372036854775808 ≤ other ∧ other ≤ 9223372036854775807) (b3 : -9223372036854775808 ≤ mode ∧ mode ≤ 9223372036854775807) (hl : AsksAt w v n g) :
    Calls Tryd.prog 6 #[.int .i64 area, .int .i64 other, .int .i64 mode, v] w (TruePost w) := by
  have hlen := hl.len
  unfold maxLen at hlen
  rcases hl.shape with ⟨p, cap, rfl, rfl⟩ | ⟨b, off, cap, rfl, hbw, hcell⟩
  · clear hl hlen
    go_enter Tryd.func6, Tryd.ntmps6
    go_wp2_with fail
    refine (new_ok 3 1 _ (by omega) (by omega) (by omega) (by omega)).mono ?_
    rintro e w1 ⟨rfl, hA, hlt, hB⟩
    go_wp2_with fail
    refine (Within_b _ _ _ _ (by omega) (by omega) (by omega) b1.1 b1.2).mono ?_
    rintro e w' ⟨rfl, rfl⟩
    have hx := wiF_b (n := area) (lo := 0) (hi := 7) (by omega)
    generalize wiF area 0 7 = x at *
    go_wp2_with fail
    refine (Within_b _ _ _ _ (by omega) (by omega) (by omega) b2.1 b2.2).mono ?_
    rintro e w' ⟨rfl, rfl⟩
    have ho := wiF_b (n := other) (lo := 1) (hi := 7) (by omega)
    generalize wiF other 1 7 = o at *
    go_wp2_with fail
    refine (Within_b _ _ _ _ (by omega) (by omega) (by omega) b3.1 b3.2).mono ?_
    rintro e w' ⟨rfl, rfl⟩
    have hm := wiF_b (n := mode) (lo := 0) (hi := 3) (by omega)
    generalize wiF mode 0 3 = m at *
    have hy : 0 ≤ (x + o) % 8 ∧ (x + o) % 8 ≤ 7 ∧ (x + o) % 8 ≠ x := by omega
    have hyn : ((x != (x + o) % 8) : Bool) = true := by simp; omega
    go_wp2_with fail
    go_loopw [15] (fun i wr => ∃ C : Nat → Int, i = .int .i64 0 ∧ AdaptAt wr w.heap.size C ∧ (C 0 = 3 ∧ C 1 = 1 ∧ C (2 + ((x + o) % 8).toNat * 5) = 0 ∧ C (2 + ((x + o) % 8).toNat * 5 + 1) = 0 ∧ C (2 + ((x + o) % 8).toNat * 5 + 2) = 0) ∧ w.heap.size < wr.heap.size ∧ Below w.heap.size w wr) (fun _ _ => 0)
    case atStart => exact ⟨newC 3 1, rfl, hA, ⟨rfl, rfl, new_zero _ _ (by omega), new_zero _ _ (by omega), new_zero _ _ (by omega)⟩, hlt, hB⟩
    case round =>
      obtain ⟨C, rfl, hAk, hz, hltk, hBk⟩ := hrel
      have Hz := Lib.hid hz
      clear hz hA hlt hB
      go_wp2_with fail
      refine (counts_any _ _ _ _ hAk (by omega) (by omega)).mono ?_
      rintro e w2 ⟨rfl, rfl⟩
      obtain ⟨z0, z1, zz⟩ := Hz.out
      rw [(zz).1, (zz).2.1, (zz).2.2]
      go_wp2_with fail
      refine (pick_any _ _ _ _ _ (hAk.drewN 1)).mono ?_
      rintro e w3 ⟨rfl, hB3⟩
      have hp : pickR C (4 * ((x + o) % 8)) m = 0 := by
        rw [pickR, if_pos (by omega), show (4 * ((x + o) % 8) / 4).toNat = ((x + o) % 8).toNat by omega]
        unfold pickF
        rw [z0, z1, zz.1, zz.2.1, zz.2.2]
        simp
      rw [hp]
      clear hp z0 z1 zz
      have hA3 := (hAk.drewN 1).below hB3 (hAk.drewN 1).lt
      have hB3' := hBk.drew.trans (hB3.mono (by simp; omega))
      have hlt3 : w.heap.size < w3.heap.size := by have := hB3.size; simp at this; omega
      have hpk : ∀ j : Int, 0 ≤ j → j ≤ 3 → pickR C (4 * x + j) m = pickF C x.toNat m := fun j h0 h3 => by
        rw [pickR, if_pos (by omega), show ((4 * x + j) / 4).toNat = x.toNat by omega]
      have Hpk := Lib.hid hpk
      clear hpk hAk hltk hBk
      go_wp2_with fail
      go_loopw [19] (fun i wr => ∃ j : Nat, 1 ≤ j ∧ j ≤ 4 ∧ i = .int .i64 j ∧ AdaptAt wr w.heap.size C ∧ w.heap.size < wr.heap.size ∧ Below w.heap.size w wr) (fun i _ => 4 - (intOf i).toNat)
      case atStart => exact ⟨1, by omega, by omega, rfl, hA3, hlt3, hB3'⟩
      case round =>
        clear hA3 hlt3 hB3' hB3
        obtain ⟨j, hj1, hj4, rfl, hAj, hltj, hBj⟩ := hrel
        by_cases hlt4 : j < 4
        · go_wp2_with fail
          refine (pick_any _ _ _ _ _ hAj).mono ?_
          rintro e w4 ⟨rfl, hB4⟩
          rw [Hpk.out j (by omega) (by omega)]
          have hA4 := hAj.below hB4 hAj.lt
          have hB4' := hBj.trans (hB4.mono (by omega))
          have hs4 := hB4.size
          go_wp2_with fail
          refine (pick_any _ _ _ _ _ hA4).mono ?_
          rintro e w5 ⟨rfl, hB5⟩
          have hp0 := Hpk.out 0 (by omega) (by omega)
          rw [Int.add_zero] at hp0
          rw [hp0]
          clear hp0
          have hA5 := hA4.below hB5 hA4.lt
          have hB5' := hB4'.trans (hB5.mono (by omega))
          have hs5 := hB5.size
          go_wp2_with fail
          go_roundw
          case rel => exact ⟨j + 1, by omega, by omega, by go_num, hA5, by omega, hB5'⟩
          case measure => simp [intOf]; omega
        · go_wp2_with fail
          refine (adaptRuns _).mono ?_
          rintro e w6 ⟨rfl, hR⟩
          go_wp2_with fail
          go_ret
          exact ⟨rfl, hBj.trans (hR.mono (by omega))⟩
  have HN := hl.num
  clear hl
  go_enter Tryd.func6, Tryd.ntmps6
  go_wp2_with fail
  refine (new_ok 3 1 _ (by omega) (by omega) (by omega) (by omega)).mono ?_
  rintro e w1 ⟨rfl, hA, hlt, hB⟩
  go_wp2_with fail
  refine (Within_b _ _ _ _ (by omega) (by omega) (by omega) b1.1 b1.2).mono ?_
  rintro e w' ⟨rfl, rfl⟩
  have hx := wiF_b (n := area) (lo := 0) (hi := 7) (by omega)
  generalize wiF area 0 7 = x at *
  go_wp2_with fail
  refine (Within_b _ _ _ _ (by omega) (by omega) (by omega) b2.1 b2.2).mono ?_
  rintro e w' ⟨rfl, rfl⟩
  have ho := wiF_b (n := other) (lo := 1) (hi := 7) (by omega)
  generalize wiF other 1 7 = o at *
  go_wp2_with fail
  refine (Within_b _ _ _ _ (by omega) (by omega) (by omega) b3.1 b3.2).mono ?_
  rintro e w' ⟨rfl, rfl⟩
  have hm := wiF_b (n := mode) (lo := 0) (hi := 3) (by omega)
  generalize wiF mode 0 3 = m at *
  have hy : 0 ≤ (x + o) % 8 ∧ (x + o) % 8 ≤ 7 ∧ (x + o) % 8 ≠ x := by omega
  have hyn : ((x != (x + o) % 8) : Bool) = true := by simp; omega
  go_wp2_with fail
  go_loopw [15] (fun i wr => ∃ (k : Nat) (C : Nat → Int), k ≤ n ∧ k ≤ 60 ∧ i = .int .i64 k ∧ AdaptAt wr w.heap.size C ∧ OkC C ∧ (C 0 = 3 ∧ C 1 = 1 ∧ C (2 + ((x + o) % 8).toNat * 5) = 0 ∧ C (2 + ((x + o) % 8).toNat * 5 + 1) = 0 ∧ C (2 + ((x + o) % 8).toNat * 5 + 2) = 0) ∧ w.heap.size < wr.heap.size ∧ Below w.heap.size w wr) (fun i _ => 60 - (intOf i).toNat)
  case atStart => exact ⟨0, newC 3 1, by omega, by omega, rfl, hA, OkC.new _ _, ⟨rfl, rfl, new_zero _ _ (by omega), new_zero _ _ (by omega), new_zero _ _ (by omega)⟩, hlt, hB⟩
  case round =>
    obtain ⟨k, C, hk, hk60, rfl, hAk, hOk, hz, hltk, hBk⟩ := hrel
    have Hz := Lib.hid hz
    clear hz hA hlt hB
    by_cases hlt2 : k < n ∧ k < 60
    · obtain ⟨hkn, hk8⟩ := hlt2
      have hn0 := HN k 0 hkn (by omega)
      have hn1 := HN k 1 hkn (by omega)
      have hn2 := HN k 2 hkn (by omega)
      have hn3 := HN k 3 hkn (by omega)
      have hmet : ∀ w2 : World, Below w.heap.size w w2 → (∀ j, j < 4 → w2.cell? ⟨b, off + k * 4 + j, none⟩ = some (.int .i64 (g k j))) := fun w2 h2 j hj => (h2.cell (p := ⟨b, off + k * 4 + j, none⟩) hbw).trans (hcell k j hkn hj)
      go_wp2_with fail
      refine wp_region_lexA ⟨[19], []⟩ (fun w2 => Below w.heap.size w w2) (by kernel_rfl) (by kernel_rfl) hBk.drew ?_
      intro S hto hof hne
      have hx0 : ∀ x : Wd S, x.w.cell? ⟨b, off + k * 4, none⟩ = some (.int .i64 (g k 0)) := fun x => hmet _ (hto x) 0 (by omega)
      have hx1 : ∀ x : Wd S, x.w.cell? ⟨b, off + k * 4 + 1, none⟩ = some (.int .i64 (g k 1)) := fun x => hmet _ (hto x) 1 (by omega)
      have hx2 : ∀ x : Wd S, x.w.cell? ⟨b, off + k * 4 + 2, none⟩ = some (.int .i64 (g k 2)) := fun x => hmet _ (hto x) 2 (by omega)
      have hx3 : ∀ x : Wd S, x.w.cell? ⟨b, off + k * 4 + 3, none⟩ = some (.int .i64 (g k 3)) := fun x => hmet _ (hto x) 3 (by omega)
      have Hof := Lib.hid hof
      clear hto hof hmet
      refine lexW_light 8 (by kernel_rfl) ?_
      simp only [List.take_succ_cons, List.take_zero, List.drop_succ_cons, List.drop_zero]
      repeat (first | go_big_quiet_skip | (go_big_quiet_want; go_big_quiet_op; go_big_quiet_on))
      refine wpQuiet_nil ?_
      refine lexW_pure (by kernel_rfl) (by rfl) rfl Tryd.func19 rfl (by kernel_rfl) (fun x => Within_b (g k 0) 0 3 x.w (by omega) (by omega) (by omega) hn0.1 hn0.2) (by go_simp) ?_
      simp only [Act.put, List.setIfInBounds_toArray, List.set_cons_zero, List.set_cons_succ]
      have hb0 := wiF_b (n := g k 0) (lo := 0) (hi := 3) (by omega)
      generalize wiF (g k 0) 0 3 = q0 at *
      refine lexW_light 11 (by kernel_rfl) ?_
      simp only [List.take_succ_cons, List.take_zero, List.drop_succ_cons, List.drop_zero]
      repeat (first | go_big_quiet_skip | (go_big_quiet_want; go_big_quiet_op; go_big_quiet_on))
      refine wpQuiet_nil ?_
      refine lexW_pure (by kernel_rfl) (by rfl) rfl Tryd.func19 rfl (by kernel_rfl) (fun x => Within_b (g k 2) 0 3 x.w (by omega) (by omega) (by omega) hn2.1 hn2.2) (by go_simp) ?_
      simp only [Act.put, List.setIfInBounds_toArray, List.set_cons_zero, List.set_cons_succ]
      have hb2 := wiF_b (n := g k 2) (lo := 0) (hi := 3) (by omega)
      generalize wiF (g k 2) 0 3 = q2 at *
      refine lexW_light 5 (by kernel_rfl) ?_
      simp only [List.take_succ_cons, List.take_zero, List.drop_succ_cons, List.drop_zero]
      repeat (first | go_big_quiet_skip | (go_big_quiet_want; go_big_quiet_op; go_big_quiet_on))
      refine wpQuiet_nil ?_
      refine lexW_pure (by kernel_rfl) (by rfl) rfl Tryd.func19 rfl (by kernel_rfl) (fun x => Within_b (g k 3) 0 5 x.w (by omega) (by omega) (by omega) hn3.1 hn3.2) (by go_simp) ?_
      simp only [Act.put, List.setIfInBounds_toArray, List.set_cons_zero, List.set_cons_succ]
      have hb3 := wiF_b (n := g k 3) (lo := 0) (hi := 5) (by omega)
      generalize wiF (g k 3) 0 5 = q3 at *
      refine lexW_heavy (by kernel_rfl) ?_
      go_wp2_with fail
      refine (note_any _ _ _ _ _ _ _ (hAk.drewN 1) hOk).mono ?_
      rintro e w3 ⟨rfl, hA3, hG3⟩
      go_wp2_with fail
      have h3 : Below w.heap.size w w3 := hBk.drew.grown hG3 (by simp; omega) (fun k hk => by injection hk with hk; omega)
      refine lexQ_done (Hof.out _ h3) ?_
      go_wp2_with fail
      go_roundw
      case rel =>
        obtain ⟨z0, z1, z2, z3, z4⟩ := Hz.out
        refine ⟨k + 1, _, by omega, by omega, by go_num, hA3, hOk.note _ _ _ _, ⟨?_, ?_, ?_, ?_, ?_⟩, by have := hG3.size; simp at this; omega, h3⟩
        · rw [noteC_far (.inl (by omega))]; exact z0
        · rw [noteC_far (.inl (by omega))]; exact z1
        · exact (noteC_far (.inr ⟨((x + o) % 8).toNat, 0, rfl, by omega, by omega⟩)).trans z2
        · exact (noteC_far (.inr ⟨((x + o) % 8).toNat, 1, rfl, by omega, by omega⟩)).trans z3
        · exact (noteC_far (.inr ⟨((x + o) % 8).toNat, 2, rfl, by omega, by omega⟩)).trans z4
      case measure => simp [intOf]; omega
    · have hor : n ≤ k ∨ (k < n ∧ 60 ≤ k) := by omega
      clear hlt2
      rcases hor with hnk | ⟨hnk, hk8⟩
      all_goals
        go_wp2_with fail
        refine (counts_any _ _ _ _ hAk (by omega) (by omega)).mono ?_
        rintro e w2 ⟨rfl, rfl⟩
        obtain ⟨z0, z1, zz⟩ := Hz.out
        rw [(zz).1, (zz).2.1, (zz).2.2]
        go_wp2_with fail
        refine (pick_any _ _ _ _ _ (hAk.drewN 1)).mono ?_
        rintro e w3 ⟨rfl, hB3⟩
        have hp : pickR C (4 * ((x + o) % 8)) m = 0 := by
          rw [pickR, if_pos (by omega), show (4 * ((x + o) % 8) / 4).toNat = ((x + o) % 8).toNat by omega]
          unfold pickF
          rw [z0, z1, zz.1, zz.2.1, zz.2.2]
          simp
        rw [hp]
        clear hp z0 z1 zz
        have hA3 := (hAk.drewN 1).below hB3 (hAk.drewN 1).lt
        have hB3' := hBk.drew.trans (hB3.mono (by simp; omega))
        have hlt3 : w.heap.size < w3.heap.size := by have := hB3.size; simp at this; omega
        have hpk : ∀ j : Int, 0 ≤ j → j ≤ 3 → pickR C (4 * x + j) m = pickF C x.toNat m := fun j h0 h3 => by
          rw [pickR, if_pos (by omega), show ((4 * x + j) / 4).toNat = x.toNat by omega]
        have Hpk := Lib.hid hpk
        clear hpk hAk hltk hBk
        go_wp2_with fail
        go_loopw [19] (fun i wr => ∃ j : Nat, 1 ≤ j ∧ j ≤ 4 ∧ i = .int .i64 j ∧ AdaptAt wr w.heap.size C ∧ w.heap.size < wr.heap.size ∧ Below w.heap.size w wr) (fun i _ => 4 - (intOf i).toNat)
        case atStart => exact ⟨1, by omega, by omega, rfl, hA3, hlt3, hB3'⟩
        case round =>
          clear hA3 hlt3 hB3' hB3
          obtain ⟨j, hj1, hj4, rfl, hAj, hltj, hBj⟩ := hrel
          by_cases hlt4 : j < 4
          · go_wp2_with fail
            refine (pick_any _ _ _ _ _ hAj).mono ?_
            rintro e w4 ⟨rfl, hB4⟩
            rw [Hpk.out j (by omega) (by omega)]
            have hA4 := hAj.below hB4 hAj.lt
            have hB4' := hBj.trans (hB4.mono (by omega))
            have hs4 := hB4.size
            go_wp2_with fail
            refine (pick_any _ _ _ _ _ hA4).mono ?_
            rintro e w5 ⟨rfl, hB5⟩
            have hp0 := Hpk.out 0 (by omega) (by omega)
            rw [Int.add_zero] at hp0
            rw [hp0]
            clear hp0
            have hA5 := hA4.below hB5 hA4.lt
            have hB5' := hB4'.trans (hB5.mono (by omega))
            have hs5 := hB5.size
            go_wp2_with fail
            go_roundw
            case rel => exact ⟨j + 1, by omega, by omega, by go_num, hA5, by omega, hB5'⟩
            case measure => simp [intOf]; omega
          · go_wp2_with fail
            refine (adaptRuns _).mono ?_
            rintro e w6 ⟨rfl, hR⟩
            go_wp2_with fail
            go_ret
            exact ⟨rfl, hBj.trans (hR.mono (by omega))⟩

end Go.Proofs.YtaecihljgbjmcaaDoor
