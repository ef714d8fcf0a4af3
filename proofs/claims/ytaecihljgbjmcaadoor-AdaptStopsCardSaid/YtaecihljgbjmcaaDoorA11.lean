/- AdaptStops: the walk. -/
import Derived.Test.YtaecihljgbjmcaaDoorA7
namespace Go.Proofs.YtaecihljgbjmcaaDoor
open Go.RowKit

theorem new0 (high low : Int) : newC high low 0 = high := rfl
theorem new1 (high low : Int) : newC high low 1 = low := rfl

/-- What an update of core 0 and a read of core 1 count, where core 0 has not read last. -/
theorem stops_up {C : Nat → Int} (h5 : C 5 ≠ 1) :
    noteC (noteC C 0 3 0 2) 0 1 1 2 2 = cntF false (C 2) ∧ noteC (noteC C 0 3 0 2) 0 1 1 2 3 = cntF true (C 3) ∧ noteC (noteC C 0 3 0 2) 0 1 1 2 4 = cntF true (C 4) ∧ noteC (noteC C 0 3 0 2) 0 1 1 2 5 = 2 := by
  have e1 : noteC C 0 3 0 2 = updateC C 0 0 := rfl
  have e2 : ∀ D, noteC D 0 1 1 2 = readC D 0 1 2 := fun _ => rfl
  rw [e1, e2]
  simp [readC, updateC, moveC, updC, incF, h5]
theorem stops_down {C : Nat → Int} (h5 : C 5 ≠ 1) :
    noteC C 0 2 0 1 2 = cntF false (C 2) ∧ noteC C 0 2 0 1 3 = cntF false (C 3) ∧ noteC C 0 2 0 1 4 = cntF false (C 4) ∧ noteC C 0 2 0 1 5 = C 5 := by
  have e1 : noteC C 0 2 0 1 = writeC C 0 0 1 := rfl
  rw [e1]
  simp [writeC, moveC, updC, decF, h5]

set_option maxRecDepth 100000 in
set_option maxHeartbeats 4000000 in
theorem adaptStops (ups downs : Int) (w : World) (b1 : -9223372036854775808 ≤ ups ∧ ups ≤ 9223372036854775807) (b2 : -9223372036854775808 ≤ downs ∧ downs ≤ 9223372036854775807) :
    Calls Tryd.prog 8 #[.int .i64 ups, .int .i64 downs] w (TruePost w) := by
  go_enter Tryd.func8, Tryd.ntmps8
  go_wp2_with fail
  refine (new_ok 15 0 _ (by omega) (by omega) (by omega) (by omega)).mono ?_
  rintro e w1 ⟨rfl, hA, hlt, hB⟩
  go_wp2_with fail
  refine (Within_b _ _ _ _ (by omega) (by omega) (by omega) b1.1 b1.2).mono ?_
  rintro e w' ⟨rfl, rfl⟩
  have hn := wiF_b (n := ups) (lo := 0) (hi := 40) (by omega)
  generalize wiF ups 0 40 = n at *
  go_wp2_with fail
  refine (Within_b _ _ _ _ (by omega) (by omega) (by omega) b2.1 b2.2).mono ?_
  rintro e w' ⟨rfl, rfl⟩
  have hd := wiF_b (n := downs) (lo := 0) (hi := 40) (by omega)
  generalize wiF downs 0 40 = d at *
  go_wp2_with fail
  go_loopw [9] (fun i wr => ∃ (k : Nat) (C : Nat → Int), (k : Int) ≤ n ∧ i = .int .i64 k ∧ AdaptAt wr w.heap.size C ∧ OkC C ∧ C 2 = 0 ∧ C 3 = min (k : Int) 15 ∧ C 4 = min (k : Int) 15 ∧ C 5 ≠ 1 ∧ w.heap.size < wr.heap.size ∧ Below w.heap.size w wr) (fun i _ => 40 - (intOf i).toNat)
  case atStart => exact ⟨0, _, by omega, rfl, hA, OkC.new _ _, rfl, rfl, rfl, by decide, hlt, hB⟩
  case round =>
    obtain ⟨k, C, hk, rfl, hAk, hOk, q2, q3, q4, q5, hltk, hBk⟩ := hrel
    have Q2 := Lib.hid q2
    have Q3 := Lib.hid q3
    have Q4 := Lib.hid q4
    have Q5 := Lib.hid q5
    clear q2 q3 q4 q5
    by_cases hlt2 : (k : Int) < n
    · go_wp2_with fail
      refine (note_any _ _ _ _ _ _ _ hAk hOk).mono ?_
      rintro e w2 ⟨rfl, hA2, hG2⟩
      have hOk2 := hOk.note 0 3 0 2
      go_wp2_with fail
      refine (note_any _ _ _ _ _ _ _ hA2 hOk2).mono ?_
      rintro e w3 ⟨rfl, hA3, hG3⟩
      have hOk3 := hOk2.note 0 1 1 2
      have h2 := hBk.grown hG2 (by omega) (fun k hk => by injection hk with hk; omega)
      have h3 := h2.grown hG3 (by have := hG2.size; omega) (fun k hk => by injection hk with hk; omega)
      go_wp2_with fail
      go_roundw
      case rel =>
        obtain ⟨r2, r3, r4, r5⟩ := stops_up Q5.out
        refine ⟨k + 1, _, by omega, by go_num, hA3, hOk3, ?_, ?_, ?_, by rw [r5]; decide, by have := hG2.size; have := hG3.size; omega, h3⟩
        · rw [r2, Q2.out]; rfl
        · rw [r3, Q3.out]; simp only [cntF, if_true]; omega
        · rw [r4, Q4.out]; simp only [cntF, if_true]; omega
      case measure => simp [intOf]; omega
    · have hkn : (k : Int) = n := by omega
      go_wp2_with fail
      refine (counts_ok _ _ 0 _ hAk (by omega)).mono ?_
      rintro e w2 ⟨rfl, rfl⟩
      rw [show 2 + 0 * 5 = 2 from rfl, show 2 + 1 = 3 from rfl, show 2 + 2 = 4 from rfl, Q2.out, Q3.out, Q4.out, hkn]
      have Hkn := Lib.hid hkn
      clear hkn
      go_wp2_with fail
      go_loopw [14] (fun i wr => ∃ (j : Nat) (C : Nat → Int), (j : Int) ≤ d ∧ i = .int .i64 j ∧ AdaptAt wr w.heap.size C ∧ OkC C ∧ C 2 = 0 ∧ C 3 = max (min n 15 - j) 0 ∧ C 4 = max (min n 15 - j) 0 ∧ C 5 ≠ 1 ∧ w.heap.size < wr.heap.size ∧ Below w.heap.size w wr) (fun i _ => 40 - (intOf i).toNat)
      case atStart => exact ⟨0, C, by omega, rfl, hAk.drewN 1, hOk, Q2.out, by rw [Q3.out, Hkn.out]; omega, by rw [Q4.out, Hkn.out]; omega, Q5.out, by simp; omega, hBk.drew⟩
      case round =>
        obtain ⟨j, D, hj, rfl, hAj, hOj, q2, q3, q4, q5, hltj, hBj⟩ := hrel
        clear Q2 Q3 Q4 Q5 hAk hOk hltk hBk
        have Q2 := Lib.hid q2
        have Q3 := Lib.hid q3
        have Q4 := Lib.hid q4
        have Q5 := Lib.hid q5
        clear q2 q3 q4 q5
        by_cases hlt3 : (j : Int) < d
        · go_wp2_with fail
          refine (note_any _ _ _ _ _ _ _ hAj hOj).mono ?_
          rintro e w2 ⟨rfl, hA2, hG2⟩
          have hOk2 := hOj.note 0 2 0 1
          have h2 := hBj.grown hG2 (by omega) (fun k hk => by injection hk with hk; omega)
          go_wp2_with fail
          go_roundw
          case rel =>
            obtain ⟨r2, r3, r4, r5⟩ := stops_down Q5.out
            refine ⟨j + 1, _, by omega, by go_num, hA2, hOk2, ?_, ?_, ?_, by rw [r5]; exact Q5.out, by have := hG2.size; omega, h2⟩
            · rw [r2, Q2.out]; rfl
            · rw [r3, Q3.out]; simp only [cntF, Bool.false_eq_true, if_false]; omega
            · rw [r4, Q4.out]; simp only [cntF, Bool.false_eq_true, if_false]; omega
          case measure => simp [intOf]; omega
        · have hjd : (j : Int) = d := by omega
          go_wp2_with fail
          refine (counts_ok _ _ 0 _ hAj (by omega)).mono ?_
          rintro e w2 ⟨rfl, rfl⟩
          rw [show 2 + 0 * 5 = 2 from rfl, show 2 + 1 = 3 from rfl, show 2 + 2 = 4 from rfl, Q2.out, Q3.out, Q4.out, hjd]
          clear hjd
          go_wp2_with fail
          refine (adaptRuns _).mono ?_
          rintro e w6 ⟨rfl, hR⟩
          go_wp2_with fail
          go_ret
          exact ⟨rfl, hBj.drew.trans (hR.mono (by simp; omega))⟩

end Go.Proofs.YtaecihljgbjmcaaDoor
