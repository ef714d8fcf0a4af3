/- AdaptHolds: the walk. -/
import Derived.Test.YtaecihljgbjmcaaDoorA7
namespace Go.Proofs.YtaecihljgbjmcaaDoor
open Go.RowKit

theorem AdaptAt.grown {w w' : World} {a b : Nat} {C : Nat → Int} (h : AdaptAt w b C) (hg : w.grownBy w' (some a)) (hne : b ≠ a) : AdaptAt w' b C :=
  ⟨fun k hk => (World.cell?_of_block (hg.block b h.lt (fun e => hne (by injection e)))).trans (h.cell k hk), fun k hk => (World.frozen?_of_block (hg.block b h.lt (fun e => hne (by injection e)))).trans (h.froz k hk)⟩

theorem holds_read {C : Nat → Int} (c : Int) (h0 : 0 ≤ c) (h1 : c < 64) :
    noteC C 0 1 c 3 0 = C 0 ∧ noteC C 0 1 c 3 1 = C 1 ∧ noteC C 0 1 c 3 2 = C 2 ∧ noteC C 0 1 c 3 3 = C 3 ∧ noteC C 0 1 c 3 4 = cntF true (C 4) ∧ noteC C 0 1 c 3 6 = C 6 := by
  have e : noteC C 0 1 c 3 = readC C 0 c 3 := by
    have hn : noteOk 0 1 c 3 = true := decide_eq_true (by omega)
    rw [noteC, if_pos hn, if_pos rfl]
    rfl
  rw [e]
  simp [readC, updC, incF]

theorem holds_write {C : Nat → Int} (h2 : C 2 = 0) (h6 : C 6 = 0 ∨ C 6 = 2) :
    noteC C 0 2 1 1 0 = C 0 ∧ noteC C 0 2 1 1 1 = C 1 ∧ noteC C 0 2 1 1 2 = 0 ∧ noteC C 0 2 1 1 3 = cntF false (C 3) ∧ noteC C 0 2 1 1 4 = cntF false (C 4) ∧ noteC C 0 2 1 1 6 = 2 := by
  have e : noteC C 0 2 1 1 = writeC C 0 1 1 := rfl
  rw [e]
  rcases h6 with h6 | h6 <;> (simp [writeC, moveC, updC, decF, cntF, h6, h2]; try decide)

/-- A core that reads and writes what another wrote. -/
theorem holds_turn {C : Nat → Int} (c : Int) (h0 : 0 ≤ c) (h1 : c < 64) :
    noteC (noteC C 0 1 c 1) 0 2 c 1 0 = C 0 ∧ noteC (noteC C 0 1 c 1) 0 2 c 1 2 = cntF (decide (0 < C 6) && !decide (C 6 = c + 1)) (C 2) ∧ noteC (noteC C 0 1 c 1) 0 2 c 1 6 = c + 1 := by
  have e1 : noteC C 0 1 c 1 = readC C 0 c 1 := by
    have hn : noteOk 0 1 c 1 = true := decide_eq_true (by omega)
    rw [noteC, if_pos hn, if_pos rfl]
    rfl
  have e2 : ∀ D, noteC D 0 2 c 1 = writeC D 0 c 1 := fun D => by
    have hn : noteOk 0 2 c 1 = true := decide_eq_true (by omega)
    rw [noteC, if_pos hn, if_neg (by decide), if_pos rfl]
    rfl
  rw [e1, e2]
  simp [writeC, readC, moveC, updC]

set_option maxRecDepth 100000 in
set_option maxHeartbeats 4000000 in
theorem adaptHolds (high low mode n : Int) (w : World) (b1 : -9223372036854775808 ≤ high ∧ high ≤ 9223372036854775807) (b2 : -9223372036854775808 ≤ low ∧ low ≤ 9223372036854775807)
    (b3 : -9223372036854775808 ≤ mode ∧ mode ≤ 9223372036854775807) (b4 : -9223372036854775808 ≤ n ∧ n ≤ 9223372036854775807) :
    Calls Tryd.prog 5 #[.int .i64 high, .int .i64 low, .int .i64 mode, .int .i64 n] w (TruePost w) := by
  go_enter Tryd.func5, Tryd.ntmps5
  go_wp2_with fail
  refine (Within_b _ _ _ _ (by omega) (by omega) (by omega) b1.1 b1.2).mono ?_
  rintro e w' ⟨rfl, rfl⟩
  have hh := wiF_b (n := high) (lo := 1) (hi := 15) (by omega)
  generalize wiF high 1 15 = h at *
  go_wp2_with fail
  refine (Within_b _ _ _ _ (by omega) (by omega) (by omega) b2.1 b2.2).mono ?_
  rintro e w' ⟨rfl, rfl⟩
  have hl := wiF_b (n := low) (lo := 0) (hi := h - 1) (by omega)
  have HL := Lib.hid hl
  go_wp2_with fail
  refine (new_ok _ _ _ (by omega) (by omega) (by omega) (by omega)).mono ?_
  rintro e w1 ⟨rfl, hA, hlt, hB⟩
  go_wp2_with fail
  refine (Within_b _ _ _ _ (by omega) (by omega) (by omega) b2.1 b2.2).mono ?_
  rintro e w' ⟨rfl, rfl⟩
  generalize wiF low 0 (h - 1) = lo at *
  go_wp2_with fail
  refine (new_ok _ _ _ (by omega) (by omega) (by omega) (by omega)).mono ?_
  rintro e w2 ⟨rfl, hA2, hlt2, hB2⟩
  have hA1 := hA.below hB2 hlt
  have hBB := hB.trans (hB2.mono (by omega))
  clear hA hB hB2
  go_wp2_with fail
  refine (Within_b _ _ _ _ (by omega) (by omega) (by omega) b3.1 b3.2).mono ?_
  rintro e w' ⟨rfl, rfl⟩
  have hm := wiF_b (n := mode) (lo := 0) (hi := 3) (by omega)
  generalize wiF mode 0 3 = m at *
  generalize hw1 : w1.heap.size = B2 at *
  have HW1 := Lib.hid hw1
  clear hw1
  have hni := wiF_b (n := n) (lo := 0) (hi := 40) (by omega)
  have hwi : ∀ W : World, Calls Tryd.prog 19 #[.int .i64 n, .int .i64 0, .int .i64 40] W fun e w' => e = .returned (.int .i64 (wiF n 0 40)) ∧ W = w' := fun W => Within_b _ _ _ _ (by omega) (by omega) (by omega) b4.1 b4.2
  have Hwi := Lib.hid hwi
  clear hwi
  generalize wiF n 0 40 = q at *
  go_wp2_with fail
  go_loopw [15] (fun i wr => ∃ (k : Nat) (C : Nat → Int), (k : Int) ≤ q ∧ i = .int .i64 k ∧ AdaptAt wr w.heap.size C ∧ OkC C ∧ C 0 = h ∧ C 1 = lo ∧ C 2 = 0 ∧ C 3 = 0 ∧ C 6 = 0 ∧ AdaptAt wr B2 (newC h lo) ∧ w.heap.size < wr.heap.size ∧ Below w.heap.size w wr) (fun i _ => 40 - (intOf i).toNat)
  case atStart => exact ⟨0, _, by omega, rfl, hA1, OkC.new _ _, rfl, rfl, rfl, rfl, rfl, hA2, by omega, hBB⟩
  case round =>
    obtain ⟨k, C, hk, rfl, hAk, hOk, q0, q1, q2, q3, q6, hAb, hltk, hBk⟩ := hrel
    have Q0 := Lib.hid q0
    have Q1 := Lib.hid q1
    have Q2 := Lib.hid q2
    have Q3 := Lib.hid q3
    have Q6 := Lib.hid q6
    clear q0 q1 q2 q3 q6
    by_cases hlt3 : (k : Int) < q
    · go_wp2_with fail
      refine (Hwi.out _).mono ?_
      rintro e w' ⟨rfl, rfl⟩
      go_wp2_with fail
      refine (note_any _ _ _ _ _ _ _ hAk hOk).mono ?_
      rintro e w3 ⟨rfl, hA3, hG3⟩
      have hOk3 := hOk.note 0 1 ((k : Int) % 3) 3
      obtain ⟨r0, r1, r2, r3, r4, r6⟩ := holds_read (C := C) ((k : Int) % 3) (by omega) (by omega)
      have R0 := Lib.hid (r0.trans Q0.out)
      have R1 := Lib.hid (r1.trans Q1.out)
      have R2 := Lib.hid (r2.trans Q2.out)
      have R3 := Lib.hid (r3.trans Q3.out)
      have R6 := Lib.hid (r6.trans Q6.out)
      clear r0 r1 r2 r3 r4 r6
      have hAb3 := hAb.grown hG3 (by omega)
      have h3 := hBk.grown hG3 (by omega) (fun k hk => by injection hk with hk; omega)
      have hlt4 : w.heap.size < w3.heap.size := by have := hG3.size; omega
      generalize noteOk 0 1 ((k : Int) % 3) 3 = ok at *
      generalize noteC C 0 1 ((k : Int) % 3) 3 = C3 at *
      go_wp2_with fail
      refine (pick_any _ _ _ _ _ hA3).mono ?_
      rintro e w4 ⟨rfl, hB4⟩
      have hA4 := hA3.below hB4 hA3.lt
      have hAb4 := hAb3.below hB4 hAb3.lt
      have h4 := h3.trans (hB4.mono (by omega))
      have hs4 := hB4.size
      have hp : pickR C3 0 m = 1 ∨ pickR C3 0 m = 0 ∨ pickR C3 0 m = m := by
        rw [pickR, if_pos (by omega)]
        unfold pickF
        simp only [show (0 / 4 : Int).toNat = 0 from rfl, Nat.zero_mul, Nat.add_zero, Nat.reduceAdd, R0.out, R1.out, R2.out, R3.out]
        rw [if_neg (by omega), if_neg (by omega)]
        split
        · exact .inl rfl
        · split
          · exact .inr (.inl rfl)
          · exact .inr (.inr rfl)
      generalize pickR C3 0 m = p at *
      have goal : ∀ w', w' = w4 → (∃ (k' : Nat) (C : Nat → Int), (k' : Int) ≤ q ∧ Value.int .i64 ((k : Int) + 1) = .int .i64 k' ∧ AdaptAt w' w.heap.size C ∧ OkC C ∧ C 0 = h ∧ C 1 = lo ∧ C 2 = 0 ∧ C 3 = 0 ∧ C 6 = 0 ∧ AdaptAt w' B2 (newC h lo) ∧ w.heap.size < w'.heap.size ∧ Below w.heap.size w w') :=
        fun w' hw => by subst hw; exact ⟨k + 1, C3, by omega, by go_num, hA4, hOk3, R0.out, R1.out, R2.out, R3.out, R6.out, hAb4, by omega, h4⟩
      have Goal := Lib.hid goal
      clear goal
      rcases hp with rfl | rfl | hp
      · go_wp2_with fail
        go_roundw
        case rel => exact Goal.out _ rfl
        case measure => simp [intOf]; omega
      · go_wp2_with fail
        go_roundw
        case rel => exact Goal.out _ rfl
        case measure => simp [intOf]; omega
      · have Hp := Lib.hid hp
        clear hp
        have t0 : (p == 3) = true ∧ (m != 3) = false ∨ (p == 3) = false ∧ (p == 2) = true ∧ (m != 2) = false ∨ (p == 3) = false ∧ (p == 2) = false := by
          rw [Hp.out]
          simp only [beq_iff_eq, beq_eq_false_iff_ne, bne_eq_false_iff_eq]
          omega
        rcases t0 with ⟨t1, t2⟩ | ⟨t1, t2, t3⟩ | ⟨t1, t2⟩
        all_goals
          go_wp2_with fail
          go_roundw
          case rel => exact Goal.out _ rfl
          case measure => simp [intOf]; omega
    · go_wp2_with fail
      refine (Hwi.out _).mono ?_
      rintro e w' ⟨rfl, rfl⟩
      go_wp2_with fail
      go_loopw [17] (fun i wr => ∃ (j : Nat) (C : Nat → Int), j ≤ 40 ∧ i = .int .i64 j ∧ AdaptAt wr w.heap.size C ∧ OkC C ∧ C 0 = h ∧ C 1 = lo ∧ C 2 = 0 ∧ C 3 = 0 ∧ 0 ≤ C 4 ∧ C 4 ≤ max (15 - (j : Int)) 0 ∧ (C 6 = 0 ∨ C 6 = 2) ∧ AdaptAt wr B2 (newC h lo) ∧ w.heap.size < wr.heap.size ∧ Below w.heap.size w wr) (fun i _ => 40 - (intOf i).toNat)
      case atStart => exact ⟨0, C, by omega, rfl, hAk, hOk, Q0.out, Q1.out, Q2.out, Q3.out, (hOk 0 (by omega) 2 (by omega)).1, by have := (hOk 0 (by omega) 2 (by omega)).2; simp at this; omega, .inl Q6.out, hAb, hltk, hBk⟩
      case round =>
        clear Q0 Q1 Q2 Q3 Q6 hAk hOk hltk hBk hAb
        obtain ⟨j, D, hj, rfl, hAj, hOj, q0, q1, q2, q3, q40, q4, q6, hAb, hltj, hBj⟩ := hrel
        have Q0 := Lib.hid q0
        have Q1 := Lib.hid q1
        have Q2 := Lib.hid q2
        have Q3 := Lib.hid q3
        have Q4 := Lib.hid (And.intro q40 q4)
        have Q6 := Lib.hid q6
        clear q0 q1 q2 q3 q40 q4 q6
        by_cases hlt5 : j < 40
        · go_wp2_with fail
          refine (note_any _ _ _ _ _ _ _ hAj hOj).mono ?_
          rintro e w3 ⟨rfl, hA3, hG3⟩
          have hOk3 := hOj.note 0 2 1 1
          have hAb3 := hAb.grown hG3 (by omega)
          have h3 := hBj.grown hG3 (by omega) (fun k hk => by injection hk with hk; omega)
          go_wp2_with fail
          go_roundw
          case rel =>
            obtain ⟨r0, r1, r2, r3, r4, r6⟩ := holds_write (C := D) Q2.out Q6.out
            obtain ⟨q40, q4⟩ := Q4.out
            refine ⟨j + 1, _, by omega, by go_num, hA3, hOk3, r0.trans Q0.out, r1.trans Q1.out, r2, by rw [r3, Q3.out]; rfl, ?_, ?_, .inr r6, hAb3, by have := hG3.size; omega, h3⟩
            · rw [r4]; simp only [cntF, Bool.false_eq_true, if_false]; omega
            · rw [r4]; simp only [cntF, Bool.false_eq_true, if_false]; omega
          case measure => simp [intOf]; omega
        · obtain rfl : j = 40 := by omega
          go_wp2_with fail
          refine (pick_any _ _ _ _ _ hAj).mono ?_
          rintro e w4 ⟨rfl, hB4⟩
          have hAb4 := hAb.below hB4 hAb.lt
          have h4 := hBj.trans (hB4.mono (by omega))
          have hs4 := hB4.size
          have hp : pickR D 0 m = 0 := by
            have h4 := Q4.out
            rw [pickR, if_pos (by omega)]
            unfold pickF
            simp only [show (0 / 4 : Int).toNat = 0 from rfl, Nat.zero_mul, Nat.add_zero, Nat.reduceAdd, Q0.out, Q1.out, Q2.out, Q3.out]
            rw [if_neg (by omega), if_neg (by omega), if_neg (by omega), if_pos (by omega)]
          rw [hp]
          clear hp
          go_wp2_with fail
          go_loopw [18] (fun i wr => ∃ (j : Nat) (C : Nat → Int), (j : Int) ≤ h + 1 ∧ i = .int .i64 j ∧ AdaptAt wr B2 C ∧ OkC C ∧ C 0 = h ∧ C 2 = max ((j : Int) - 1) 0 ∧ (j = 0 ∧ C 6 = 0 ∨ 0 < j ∧ C 6 = ((j : Int) - 1) % 2 + 1) ∧ w.heap.size < B2 ∧ B2 < wr.heap.size ∧ Below w.heap.size w wr) (fun i _ => 40 - (intOf i).toNat)
          case atStart => exact ⟨0, _, by omega, rfl, hAb4, OkC.new _ _, rfl, rfl, .inl ⟨rfl, rfl⟩, by omega, hAb4.lt, h4⟩
          case round =>
            clear Q0 Q1 Q2 Q3 Q4 Q6 hAj hOj hltj hBj hAb
            obtain ⟨j, D, hj, rfl, hAj, hOj, q0, q2, q6, hw2, hltj, hBj⟩ := hrel
            have Q0 := Lib.hid q0
            have Q2 := Lib.hid q2
            have Q6 := Lib.hid q6
            clear q0 q2 q6
            by_cases hlt6 : (j : Int) < h + 1
            · go_wp2_with fail
              refine (note_any _ _ _ _ _ _ _ hAj hOj).mono ?_
              rintro e w3 ⟨rfl, hA3, hG3⟩
              have hOk3 := hOj.note 0 1 ((j : Int) % 2) 1
              have h3 := hBj.grown hG3 (by omega) (fun k hk => by injection hk with hk; omega)
              go_wp2_with fail
              refine (note_any _ _ _ _ _ _ _ hA3 hOk3).mono ?_
              rintro e w5 ⟨rfl, hA5, hG5⟩
              have hOk5 := hOk3.note 0 2 ((j : Int) % 2) 1
              have h5 := h3.grown hG5 (by have := hG3.size; omega) (fun k hk => by injection hk with hk; omega)
              go_wp2_with fail
              go_roundw
              case rel =>
                obtain ⟨r0, r2, r6⟩ := holds_turn (C := D) ((j : Int) % 2) (by omega) (by omega)
                refine ⟨j + 1, _, by omega, by go_num, hA5, hOk5, r0.trans Q0.out, ?_, .inr ⟨by omega, by rw [r6]; omega⟩, hw2, by have := hG3.size; have := hG5.size; omega, h5⟩
                rw [r2, Q2.out]
                rcases Q6.out with ⟨rfl, h6⟩ | ⟨hj0, h6⟩
                · rw [h6]; rfl
                · rw [h6]
                  rw [show decide (0 < ((j : Int) - 1) % 2 + 1) = true by simp; omega, show decide (((j : Int) - 1) % 2 + 1 = (j : Int) % 2 + 1) = false by simp; omega]
                  simp only [cntF, Bool.not_false, Bool.and_self, if_true]
                  omega
              case measure => simp [intOf]; omega
            · go_wp2_with fail
              refine (pick_any _ _ _ _ _ hAj).mono ?_
              rintro e w5 ⟨rfl, hB5⟩
              have h5 := hBj.trans (hB5.mono (by omega))
              have hs5 := hB5.size
              have hp : pickR D 0 m = 3 := by
                rw [pickR, if_pos (by omega)]
                unfold pickF
                simp only [show (0 / 4 : Int).toNat = 0 from rfl, Nat.zero_mul, Nat.add_zero, Nat.reduceAdd, Q0.out, Q2.out]
                rw [if_pos (by omega)]
              rw [hp]
              clear hp
              go_wp2_with fail
              refine (adaptRuns _).mono ?_
              rintro e w6 ⟨rfl, hR⟩
              go_wp2_with fail
              go_ret
              exact ⟨rfl, h5.trans (hR.mono (by omega))⟩

end Go.Proofs.YtaecihljgbjmcaaDoor
