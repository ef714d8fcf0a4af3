/- AdaptRefuses: the walk, and the law at any arguments. -/
import Derived.Test.YtaecihljgbjmcaaDoorA7
namespace Go.Proofs.YtaecihljgbjmcaaDoor
open Go.RowKit

theorem updC_eq {C : Nat → Int} {k : Nat} {v : Int} : updC C k v k = v := by simp [updC]

theorem new_zero (high low : Int) {k : Nat} (h : 2 ≤ k) : newC high low k = 0 := by
  simp only [newC]
  rw [if_neg (by omega), if_neg (by omega)]

/-- One request of a new one. -/
theorem one_note (line kind core holders : Int) (i : Nat) :
    noteC (newC 2 0) line kind core holders (2 + i * 5) = 0 ∧ 0 ≤ noteC (newC 2 0) line kind core holders (2 + i * 5 + 1) ∧ noteC (newC 2 0) line kind core holders (2 + i * 5 + 1) ≤ 1 ∧
    0 ≤ noteC (newC 2 0) line kind core holders (2 + i * 5 + 2) ∧ noteC (newC 2 0) line kind core holders (2 + i * 5 + 2) ≤ 1 := by
  have z : ∀ j, newC 2 0 (2 + i * 5 + j) = 0 := fun j => new_zero 2 0 (by omega)
  have z0 : newC 2 0 (2 + i * 5) = 0 := new_zero 2 0 (by omega)
  by_cases hi : (i : Int) = line / 4
  · unfold noteC
    split
    · rename_i hn
      have hi' : (line / 4).toNat = i := by omega
      rw [hi']
      split
      · simp only [readC, incF, cntF]
        split
        · rw [updC_ne (by omega), updC_ne (by omega), updC_ne (by omega), z, z]
          exact ⟨z0, by omega, by omega, by omega, by omega⟩
        · rw [updC_ne (by omega), updC_ne (by omega), updC_ne (by omega), updC_ne (by omega), updC_eq, z, z]
          exact ⟨z0, by omega, by omega, by decide, by decide⟩
      · split
        · simp only [writeC]
          split
          · simp only [moveC, incF]
            simp [updC, z, z0, cntF]
            try decide
          · simp only [moveC, decF]
            simp [updC, z, z0, cntF]
            try decide
        · simp only [updateC, moveC, incF]
          simp [updC, z, z0, cntF]
          try decide
    · rw [z, z]
      exact ⟨z0, by omega, by omega, by omega, by omega⟩
  · have e0 : noteC (newC 2 0) line kind core holders (2 + i * 5 + 0) = _ := noteC_far (.inr ⟨i, 0, rfl, by omega, hi⟩)
    have e1 : noteC (newC 2 0) line kind core holders (2 + i * 5 + 1) = _ := noteC_far (.inr ⟨i, 1, rfl, by omega, hi⟩)
    have e2 : noteC (newC 2 0) line kind core holders (2 + i * 5 + 2) = _ := noteC_far (.inr ⟨i, 2, rfl, by omega, hi⟩)
    rw [z] at e0 e1 e2
    rw [e1, e2]
    exact ⟨e0, by omega, by omega, by omega, by omega⟩

set_option maxRecDepth 100000 in
set_option maxHeartbeats 4000000 in
theorem adaptRefuses (line kind core holders : Int) (w : World) (_b1 : -9223372036854775808 ≤ line ∧ line ≤ 9223372036854775807) (_b2 : -9223372036854775808 ≤ kind ∧ kind ≤ 9223372036854775807) (_b3 : -9223372036854775808 ≤ core ∧ core ≤ 9223372036854775807)
    (_b4 : -9223372036854775808 ≤ holders ∧ holders ≤ 9223372036854775807) :
    Calls Tryd.prog 7 #[.int .i64 line, .int .i64 kind, .int .i64 core, .int .i64 holders] w (TruePost w) := by
  have hone := one_note line kind core holders
  have hno : noteOk line kind core holders = false → noteC (newC 2 0) line kind core holders = newC 2 0 := fun h => by rw [noteC, if_neg (by simp [h])]
  have hok := OkC.note (OkC.new 2 0) line kind core holders
  have hcases : (noteOk line kind core holders = true ∧ 0 ≤ line ∧ line < 32 ∧ 0 ≤ core ∧ core < 64 ∧ 0 ≤ holders ∧ ((kind == 1) = true ∨ (kind == 1) = false ∧ (kind == 2) = true ∨ (kind == 1) = false ∧ (kind == 2) = false ∧ (kind == 3) = true)) ∨
      (noteOk line kind core holders = false ∧ (line < 0 ∨ 0 ≤ line ∧ (32 ≤ line ∨ line < 32 ∧ (core < 0 ∨ 0 ≤ core ∧ (64 ≤ core ∨ core < 64 ∧ (holders < 0 ∨ 0 ≤ holders ∧ (kind == 1) = false ∧ (kind == 2) = false ∧ (kind == 3) = false)))))) := by
    simp only [noteOk, beq_iff_eq, beq_eq_false_iff_ne, decide_eq_true_eq, decide_eq_false_iff_not]
    omega
  have Hone := Lib.hid hone
  have Hno := Lib.hid hno
  clear hone hno
  rcases hcases with ⟨hn, q1, q2, q3, q4, q5, k1 | ⟨k1, k2⟩ | ⟨k1, k2, k3⟩⟩ | ⟨hn, q1 | ⟨q1, q2 | ⟨q2, q3 | ⟨q3, q4 | ⟨q4, q5 | ⟨q5, k1, k2, k3⟩⟩⟩⟩⟩⟩
  all_goals
    go_enter Tryd.func7, Tryd.ntmps7
    go_wp2_with fail
    refine (new_ok 2 0 _ (by omega) (by omega) (by omega) (by omega)).mono ?_
    rintro e w1 ⟨rfl, hA, hlt, hB⟩
    go_wp2_with fail
    refine (note_any _ _ _ _ _ _ _ hA (OkC.new _ _)).mono ?_
    rintro e w2 ⟨rfl, hA2, hG2⟩
    rw [hn]
    have Hn := Lib.hid hn
    clear hn
    have hB2 := hB.grown hG2 (by omega) (fun k hk => by injection hk with hk; omega)
    have hlt2 : w.heap.size < w2.heap.size := by have := hG2.size; omega
    clear hA hlt hB hG2
    go_wp2_with fail
    go_loopw [12] (fun i wr => ∃ k : Nat, k ≤ 8 ∧ i = .int .i64 k ∧ AdaptAt wr w.heap.size (noteC (newC 2 0) line kind core holders) ∧ w.heap.size < wr.heap.size ∧ Below w.heap.size w wr) (fun i _ => 8 - (intOf i).toNat)
    case atStart => exact ⟨0, by omega, rfl, hA2, hlt2, hB2⟩
    case round =>
      obtain ⟨k, hk, rfl, hAk, hltk, hBk⟩ := hrel
      by_cases hlt8 : k < 8
      · have ho := Hone.out k
        go_wp2_with fail
        refine (counts_ok _ _ k _ hAk (by omega)).mono ?_
        rintro e w3 ⟨rfl, rfl⟩
        obtain ⟨x0, y0, y1, z0, z1⟩ := ho
        try
          have hz := Hno.out Hn.out
          rw [hz, new_zero 2 0 (by omega), new_zero 2 0 (by omega), new_zero 2 0 (by omega)]
        try rw [x0]
        clear x0
        try generalize noteC (newC 2 0) line kind core holders (2 + k * 5 + 1) = y at *
        try generalize noteC (newC 2 0) line kind core holders (2 + k * 5 + 2) = z at *
        go_wp2_with fail
        go_roundw
        case rel => exact ⟨k + 1, by omega, by go_num, hAk.drewN 1, by simp; omega, hBk.drew⟩
        case measure => simp [intOf]; omega
      · obtain rfl : k = 8 := by omega
        go_wp2_with fail
        refine (pick_any _ _ 0 (-1) _ hAk).mono ?_
        rintro e w3 ⟨rfl, hB3⟩
        have hA3 := hAk.below hB3 hAk.lt
        have hB3' := hBk.trans (hB3.mono (by omega))
        have hs3 := hB3.size
        rw [show pickR (noteC (newC 2 0) line kind core holders) 0 (-1) = -1 from rfl]
        go_wp2_with fail
        refine (pick_any _ _ 0 4 _ hA3).mono ?_
        rintro e w4 ⟨rfl, hB4⟩
        have hA4 := hA3.below hB4 hA3.lt
        have hB4' := hB3'.trans (hB4.mono (by omega))
        have hs4 := hB4.size
        rw [show pickR (noteC (newC 2 0) line kind core holders) 0 4 = -1 from rfl]
        go_wp2_with fail
        refine (pick_any _ _ 32 0 _ hA4).mono ?_
        rintro e w5 ⟨rfl, hB5⟩
        have hB5' := hB4'.trans (hB5.mono (by omega))
        have hs5 := hB5.size
        rw [show pickR (noteC (newC 2 0) line kind core holders) 32 0 = -1 from rfl]
        go_wp2_with fail
        refine (adaptRuns _).mono ?_
        rintro e w6 ⟨rfl, hR⟩
        go_wp2_with fail
        go_ret
        exact ⟨rfl, hB5'.trans (hR.mono (by omega))⟩

end Go.Proofs.YtaecihljgbjmcaaDoor
