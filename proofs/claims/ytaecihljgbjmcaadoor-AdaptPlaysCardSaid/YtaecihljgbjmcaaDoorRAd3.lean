/- The reference's NewAdapt and Pick; adapt.New where it refuses. -/
import Derived.Test.YtaecihljgbjmcaaDoorRAd2
import Derived.Test.YtaecihljgbjmcaaDoorErr7
import Derived.Test.YtaecihljgbjmcaaDoorMods
namespace Go.Proofs.YtaecihljgbjmcaaDoor
open Go.RowKit Go.Extern.Stop Go.Stop Go.Extern

def adT : ByteArray := ⟨#[97, 100, 97, 112, 116, 46, 78, 101, 119]⟩
theorem new_bad (A : Nat → Addr) (high low at_ : Int) (w : World) (hs : SentAt w A) (h : ¬ (1 ≤ high ∧ high ≤ 15 ∧ -1 ≤ low ∧ low < high)) (h1 : 1 ≤ high ∧ high ≤ 15 → at_ = 1) (h2 : ¬ (1 ≤ high ∧ high ≤ 15) → at_ = 0) :
    Calls Tryd.prog 15 #[.int .i64 high, .int .i64 low] w fun ev w' => ev = .returned (.tuple #[.pointer none, (ErrT.wrap adT at_ (.sent 0)).val A]) ∧ w = w' := by
  have HS := Lib.hid hs
  have hga := HS.out.glob 0 (by omega)
  simp only [gnum] at hga
  clear hs
  by_cases hh : 1 ≤ high ∧ high ≤ 15
  · obtain rfl := h1 hh
    clear h1 h2
    obtain ⟨h1, h2⟩ := hh
    have hl : low < -1 ∨ (-1 ≤ low ∧ high ≤ low) := by omega
    clear h
    rcases hl with hl | ⟨hm, hl⟩
    all_goals
      go_enter Tryd.func15, Tryd.ntmps15
      go_wp2_with fail
      refine (wrap_c A adT 1 (.sent 0) w).mono ?_
      rintro e w' ⟨rfl, hww⟩
      obtain rfl := hww.symm
      rw [show wrapE adT 1 (.sent 0) = .wrap adT 1 (.sent 0) from rfl]
      go_wp2_with fail
      go_ret2
      exact ⟨rfl, rfl⟩
  · obtain rfl := h2 hh
    clear h1 h2
    have hl : high < 1 ∨ (1 ≤ high ∧ 15 < high) := by omega
    clear h hh
    rcases hl with hl | ⟨hm, hl⟩
    all_goals
      go_enter Tryd.func15, Tryd.ntmps15
      go_wp2_with fail
      refine (wrap_c A adT 0 (.sent 0) w).mono ?_
      rintro e w' ⟨rfl, hww⟩
      obtain rfl := hww.symm
      rw [show wrapE adT 0 (.sent 0) = .wrap adT 0 (.sent 0) from rfl]
      go_wp2_with fail
      go_ret2
      exact ⟨rfl, rfl⟩

theorem rnew_bad (high low : Int) (w : World) (h : ¬ (1 ≤ high ∧ high ≤ 15 ∧ -1 ≤ low ∧ low < high)) :
    Calls Tryd.prog 31 #[.int .i64 high, .int .i64 low] w fun ev w' => ev = .returned (.tuple #[.pointer none, .int .i64 1]) ∧ w = w' := by
  have ht : (decide (high < 1) || decide (15 < high) || decide (low < -1) || decide (high ≤ low)) = true := by
    simp only [Bool.or_eq_true, decide_eq_true_eq]
    omega
  clear h
  go_enter Tryd.func31, Tryd.ntmps31
  go_upto_region 2 with fail
  all_goals
    go_wp2_with fail
    go_ret2
    exact ⟨rfl, rfl⟩

theorem AdaptAt.same {w : World} {b : Nat} {C D : Nat → Int} (h : AdaptAt w b C) (he : ∀ k, k < 42 → D k = C k) : AdaptAt w b D := ⟨fun k hk => by rw [he k hk]; exact h.cell k hk, h.froz⟩
/-- What NewAdapt has laid behind so many rounds. -/
def rinitC (high low : Int) (n : Nat) : Nat → Int := fun k => if k = 0 then high else if k = 1 then low else if (k - 2) % 5 < 2 ∧ (k - 2) / 5 < n then -1 else 0
theorem rinit_more (high low : Int) (n : Nat) : rinitC high low (n + 1) = updC (updC (rinitC high low n) (2 + n * 5) (-1)) (2 + n * 5 + 1) (-1) := by
  funext k
  simp only [rinitC, updC]
  by_cases h1 : k = 2 + n * 5 + 1
  · rw [if_pos h1, if_neg (by omega), if_neg (by omega), if_pos (by omega)]
  · rw [if_neg h1]
    by_cases h2 : k = 2 + n * 5
    · rw [if_pos h2, if_neg (by omega), if_neg (by omega), if_pos (by omega)]
    · rw [if_neg h2]
      by_cases h3 : k = 0
      · rw [if_pos h3, if_pos h3]
      · rw [if_neg h3, if_neg h3]
        by_cases h4 : k = 1
        · rw [if_pos h4, if_pos h4]
        · rw [if_neg h4, if_neg h4]
          by_cases h5 : (k - 2) % 5 < 2 ∧ (k - 2) / 5 < n
          · rw [if_pos h5, if_pos (by omega)]
          · rw [if_neg h5, if_neg (by omega)]
theorem rinit_all (high low : Int) : ∀ k, k < 42 → refC (newC high low) k = rinitC high low 8 k := fun k hk => match k, hk with | 0, _ => rfl | 1, _ => rfl | 2, _ => rfl | 3, _ => rfl | 4, _ => rfl | 5, _ => rfl | 6, _ => rfl | 7, _ => rfl | 8, _ => rfl | 9, _ => rfl | 10, _ => rfl | 11, _ => rfl | 12, _ => rfl | 13, _ => rfl | 14, _ => rfl | 15, _ => rfl | 16, _ => rfl | 17, _ => rfl | 18, _ => rfl | 19, _ => rfl | 20, _ => rfl | 21, _ => rfl | 22, _ => rfl | 23, _ => rfl | 24, _ => rfl | 25, _ => rfl | 26, _ => rfl | 27, _ => rfl | 28, _ => rfl | 29, _ => rfl | 30, _ => rfl | 31, _ => rfl | 32, _ => rfl | 33, _ => rfl | 34, _ => rfl | 35, _ => rfl | 36, _ => rfl | 37, _ => rfl | 38, _ => rfl | 39, _ => rfl | 40, _ => rfl | 41, _ => rfl | n + 42, h => absurd h (by omega)

set_option maxRecDepth 100000 in
set_option maxHeartbeats 2000000 in
theorem rnew_ok (high low : Int) (w : World) (h1 : 1 ≤ high) (h2 : high ≤ 15) (h3 : -1 ≤ low) (h4 : low < high) :
    Calls Tryd.prog 31 #[.int .i64 high, .int .i64 low] w fun ev w' => ev = .returned (.tuple #[.pointer (some ⟨w.heap.size, 0, none⟩), .int .i64 0]) ∧ AdaptAt w' w.heap.size (refC (newC high low)) ∧ w.heap.size < w'.heap.size ∧ Below w.heap.size w w' := by
  go_enter Tryd.func31, Tryd.ntmps31
  go_upto_region 4 with fail
  have hA : ∀ o, o = Obj.cells #[.int .i64 high, .int .i64 low, .int .i64 0, .int .i64 0, .int .i64 0, .int .i64 0, .int .i64 0, .int .i64 0, .int .i64 0, .int .i64 0, .int .i64 0, .int .i64 0, .int .i64 0, .int .i64 0, .int .i64 0, .int .i64 0, .int .i64 0, .int .i64 0, .int .i64 0, .int .i64 0, .int .i64 0, .int .i64 0, .int .i64 0, .int .i64 0, .int .i64 0, .int .i64 0, .int .i64 0, .int .i64 0, .int .i64 0, .int .i64 0, .int .i64 0, .int .i64 0, .int .i64 0, .int .i64 0, .int .i64 0, .int .i64 0, .int .i64 0, .int .i64 0, .int .i64 0, .int .i64 0, .int .i64 0, .int .i64 0] 60 → AdaptAt (w.alloc o) w.heap.size (rinitC high low 0) := by
    rintro o rfl
    refine ⟨fun k hk => ?_, fun k _ => World.frozen?_alloc_new _ _ _ _⟩
    rw [World.cell?_alloc_new]
    exact match k, hk with | 0, _ => rfl | 1, _ => rfl | 2, _ => rfl | 3, _ => rfl | 4, _ => rfl | 5, _ => rfl | 6, _ => rfl | 7, _ => rfl | 8, _ => rfl | 9, _ => rfl | 10, _ => rfl | 11, _ => rfl | 12, _ => rfl | 13, _ => rfl | 14, _ => rfl | 15, _ => rfl | 16, _ => rfl | 17, _ => rfl | 18, _ => rfl | 19, _ => rfl | 20, _ => rfl | 21, _ => rfl | 22, _ => rfl | 23, _ => rfl | 24, _ => rfl | 25, _ => rfl | 26, _ => rfl | 27, _ => rfl | 28, _ => rfl | 29, _ => rfl | 30, _ => rfl | 31, _ => rfl | 32, _ => rfl | 33, _ => rfl | 34, _ => rfl | 35, _ => rfl | 36, _ => rfl | 37, _ => rfl | 38, _ => rfl | 39, _ => rfl | 40, _ => rfl | 41, _ => rfl | n + 42, h => absurd h (by omega)
  have HA := Lib.hid (hA _ rfl)
  have HB := Lib.hid (show Below w.heap.size w (w.alloc (.cells #[.int .i64 high, .int .i64 low, .int .i64 0, .int .i64 0, .int .i64 0, .int .i64 0, .int .i64 0, .int .i64 0, .int .i64 0, .int .i64 0, .int .i64 0, .int .i64 0, .int .i64 0, .int .i64 0, .int .i64 0, .int .i64 0, .int .i64 0, .int .i64 0, .int .i64 0, .int .i64 0, .int .i64 0, .int .i64 0, .int .i64 0, .int .i64 0, .int .i64 0, .int .i64 0, .int .i64 0, .int .i64 0, .int .i64 0, .int .i64 0, .int .i64 0, .int .i64 0, .int .i64 0, .int .i64 0, .int .i64 0, .int .i64 0, .int .i64 0, .int .i64 0, .int .i64 0, .int .i64 0, .int .i64 0, .int .i64 0] 60)) from (Below.refl _ _).alloc (Nat.le_refl _) _)
  have HZ := Lib.hid (show w.heap.size < (w.alloc (.cells #[.int .i64 high, .int .i64 low, .int .i64 0, .int .i64 0, .int .i64 0, .int .i64 0, .int .i64 0, .int .i64 0, .int .i64 0, .int .i64 0, .int .i64 0, .int .i64 0, .int .i64 0, .int .i64 0, .int .i64 0, .int .i64 0, .int .i64 0, .int .i64 0, .int .i64 0, .int .i64 0, .int .i64 0, .int .i64 0, .int .i64 0, .int .i64 0, .int .i64 0, .int .i64 0, .int .i64 0, .int .i64 0, .int .i64 0, .int .i64 0, .int .i64 0, .int .i64 0, .int .i64 0, .int .i64 0, .int .i64 0, .int .i64 0, .int .i64 0, .int .i64 0, .int .i64 0, .int .i64 0, .int .i64 0, .int .i64 0] 60)).heap.size by simp)
  clear hA
  obtain ⟨b, hb⟩ : ∃ b, b = w.heap.size := ⟨_, rfl⟩
  have HLE := Lib.hid (show w.heap.size ≤ b by omega)
  rw [← hb] at HA HZ ⊢
  generalize w.alloc (.cells #[.int .i64 high, .int .i64 low, .int .i64 0, .int .i64 0, .int .i64 0, .int .i64 0, .int .i64 0, .int .i64 0, .int .i64 0, .int .i64 0, .int .i64 0, .int .i64 0, .int .i64 0, .int .i64 0, .int .i64 0, .int .i64 0, .int .i64 0, .int .i64 0, .int .i64 0, .int .i64 0, .int .i64 0, .int .i64 0, .int .i64 0, .int .i64 0, .int .i64 0, .int .i64 0, .int .i64 0, .int .i64 0, .int .i64 0, .int .i64 0, .int .i64 0, .int .i64 0, .int .i64 0, .int .i64 0, .int .i64 0, .int .i64 0, .int .i64 0, .int .i64 0, .int .i64 0, .int .i64 0, .int .i64 0, .int .i64 0] 60) = w1 at *
  have HBE := Lib.hid hb
  clear hb
  go_wp2_with fail
  go_loopw [27] (fun s27 wr => ∃ n : Nat, n ≤ 8 ∧ s27 = .int .i64 n ∧ AdaptAt wr b (rinitC high low n) ∧ Below w.heap.size w wr ∧ b < wr.heap.size) (fun s27 _ => 8 - (intOf s27).toNat)
  case atStart => exact ⟨0, by omega, rfl, HA.out, HB.out, HZ.out⟩
  case round =>
    obtain ⟨n, hn, rfl, hA, hB, hz⟩ := hrel
    have HA1 := Lib.hid hA
    have HB1 := Lib.hid hB
    have HZ1 := Lib.hid hz
    clear hA hB hz HA HB HZ
    by_cases hn8 : n < 8
    · have g1 : decide ((n : Int) < 8) = true := by simp; omega
      have c0 := HA1.out.cell (2 + n * 5) (by omega)
      have f0 := HA1.out.froz (2 + n * 5) (by omega)
      have c1 := HA1.out.cell (2 + n * 5 + 1) (by omega)
      have f1 := HA1.out.froz (2 + n * 5 + 1) (by omega)
      go_upto_region 7 with fail
      go_region
      go_upto_region 8 with fail
      have HS := Lib.hid (show AdaptAt ((wr.setCell ⟨b, 2 + n * 5, none⟩ (.int .i64 (-1))).setCell ⟨b, 2 + n * 5 + 1, none⟩ (.int .i64 (-1))).drew b (rinitC high low (n + 1)) from by rw [rinit_more]; exact ((HA1.out.set (by omega) _).set (by omega) _).drewN 1)
      have HB2 := Lib.hid (show Below w.heap.size w ((wr.setCell ⟨b, 2 + n * 5, none⟩ (.int .i64 (-1))).setCell ⟨b, 2 + n * 5 + 1, none⟩ (.int .i64 (-1))).drew from ((HB1.out.setCell HLE.out _).setCell HLE.out _).drew)
      have HZ2 := Lib.hid (show b < ((wr.setCell ⟨b, 2 + n * 5, none⟩ (.int .i64 (-1))).setCell ⟨b, 2 + n * 5 + 1, none⟩ (.int .i64 (-1))).drew.heap.size from by have := HZ1.out; simp [World.drew, World.setCell]; exact this)
      clear c0 f0 c1 f1 HA1 HB1 HZ1
      generalize ((wr.setCell ⟨b, 2 + n * 5, none⟩ (.int .i64 (-1))).setCell ⟨b, 2 + n * 5 + 1, none⟩ (.int .i64 (-1))).drew = w2 at *
      go_wp2_with fail
      go_roundw
      case rel => exact ⟨n + 1, by omega, by go_num, HS.out, HB2.out, HZ2.out⟩
      case measure => simp [intOf] <;> omega
    · have g1 : decide ((n : Int) < 8) = false := by simp; omega
      have HN := Lib.hid (show n = 8 by omega)
      go_wp2_with fail
      go_ret2
      rw [← HBE.out]
      refine ⟨rfl, ?_, HZ1.out, ?_⟩
      · have h := HA1.out
        rw [HN.out] at h
        exact h.same (rinit_all high low)
      · have h := HB1.out
        rw [← HBE.out] at h
        exact h

theorem rpick_no (b : Nat) (line mode : Int) (w : World) (h : ¬ (0 ≤ line ∧ line ≤ 31 ∧ 0 ≤ mode ∧ mode ≤ 3)) :
    Calls Tryd.prog 33 #[.pointer (some ⟨b, 0, none⟩), .int .i64 line, .int .i64 mode] w fun e w' => e = .returned (.int .i64 (-1)) ∧ w = w' := by
  have ht : (decide (line < 0) || decide (32 ≤ line) || decide (mode < 0) || decide (3 < mode)) = true := by
    simp only [Bool.or_eq_true, decide_eq_true_eq]
    omega
  clear h
  go_enter Tryd.func33, Tryd.ntmps33
  go_upto_region 2 with fail
  all_goals
    go_wp2_with fail
    go_ret
    exact ⟨rfl, rfl⟩
set_option maxRecDepth 100000 in
set_option maxHeartbeats 2000000 in
theorem rpick_ok (b : Nat) (C : Nat → Int) (line mode : Int) (w : World) (h : AdaptAt w b (refC C)) (h0 : 0 ≤ line) (h31 : line ≤ 31) (hm0 : 0 ≤ mode) (hm3 : mode ≤ 3) :
    Calls Tryd.prog 33 #[.pointer (some ⟨b, 0, none⟩), .int .i64 line, .int .i64 mode] w (PickPost (pickF C (line / 4).toNat mode) w) := by
  have HA := Lib.hid h
  clear h
  have hi8 : (line / 4).toNat < 8 := by omega
  have hlt := HA.out.lt
  have g0 : w.cell? ⟨b, 0, none⟩ = some (.int .i64 (C 0)) := HA.out.cell 0 (by omega)
  have g1 : w.cell? ⟨b, 1, none⟩ = some (.int .i64 (C 1)) := HA.out.cell 1 (by omega)
  have c0 := HA.out.cell (2 + (line / 4).toNat * 5) (by omega)
  have c1 := HA.out.cell (2 + (line / 4).toNat * 5 + 1) (by omega)
  have c2 := HA.out.cell (2 + (line / 4).toNat * 5 + 2) (by omega)
  have c3 := HA.out.cell (2 + (line / 4).toNat * 5 + 3) (by omega)
  have c4 := HA.out.cell (2 + (line / 4).toNat * 5 + 4) (by omega)
  have e2 := refC_atlo C (line / 4).toNat (j := 0) (by omega)
  have e3 := refC_atlo C (line / 4).toNat (j := 1) (by omega)
  have e4 := refC_atlo C (line / 4).toNat (j := 2) (by omega)
  simp only [Nat.add_zero] at e2
  rw [show 2 + (line / 4).toNat * 5 + 2 + 1 = 2 + (line / 4).toNat * 5 + 3 by omega] at e3
  rw [show 2 + (line / 4).toNat * 5 + 2 + 2 = 2 + (line / 4).toNat * 5 + 4 by omega] at e4
  rw [e2] at c2
  rw [e3] at c3
  rw [e4] at c4
  have HPF := Lib.hid (show pickF C (line / 4).toNat mode = if C 0 ≤ C (2 + (line / 4).toNat * 5) then 3 else if C 0 ≤ C (2 + (line / 4).toNat * 5 + 1) then 2 else if C 0 ≤ C (2 + (line / 4).toNat * 5 + 2) then 1
    else if C (2 + (line / 4).toNat * 5) ≤ C 1 ∧ C (2 + (line / 4).toNat * 5 + 1) ≤ C 1 ∧ C (2 + (line / 4).toNat * 5 + 2) ≤ C 1 then 0 else mode from rfl)
  generalize pickF C (line / 4).toNat mode = PF at *
  generalize C 0 = H at *
  generalize C 1 = lo at *
  generalize C (2 + (line / 4).toNat * 5) = x at *
  generalize C (2 + (line / 4).toNat * 5 + 1) = y at *
  generalize C (2 + (line / 4).toNat * 5 + 2) = z at *
  generalize refC C (2 + (line / 4).toNat * 5) = l0 at *
  generalize refC C (2 + (line / 4).toNat * 5 + 1) = l1 at *
  clear e2 e3 e4 HA
  go_enter Tryd.func33, Tryd.ntmps33
  go_upto_region 4 with fail
  have hB : Below w.heap.size w (w.alloc (.cells #[.int .i64 l0, .int .i64 l1, .int .i64 x, .int .i64 y, .int .i64 z] 57)) := (Below.refl _ _).alloc (Nat.le_refl _) _
  have n2 := World.cell?_alloc_new w #[.int .i64 l0, .int .i64 l1, .int .i64 x, .int .i64 y, .int .i64 z] 57 2
  have n3 := World.cell?_alloc_new w #[.int .i64 l0, .int .i64 l1, .int .i64 x, .int .i64 y, .int .i64 z] 57 3
  have n4 := World.cell?_alloc_new w #[.int .i64 l0, .int .i64 l1, .int .i64 x, .int .i64 y, .int .i64 z] 57 4
  have hb0 := (hB.cell (p := ⟨b, 0, none⟩) hlt).trans g0
  have hb1 := (hB.cell (p := ⟨b, 1, none⟩) hlt).trans g1
  have HB := Lib.hid hB
  generalize w.alloc (.cells #[.int .i64 l0, .int .i64 l1, .int .i64 x, .int .i64 y, .int .i64 z] 57) = w1 at *
  simp at n2 n3 n4
  clear g0 g1 c0 c1 c2 c3 c4 hB hlt hi8
  by_cases m1 : H ≤ x
  · go_region
    go_wp2_with fail
    go_ret
    exact ⟨ret_int (by rw [HPF.out, if_pos m1]), HB.out.drew⟩
  go_region
  go_upto_region 6 with fail
  have HBa := Lib.hid HB.out.drew
  by_cases m2 : H ≤ y
  · go_region
    go_wp2_with fail
    go_ret
    exact ⟨ret_int (by rw [HPF.out, if_neg (by omega), if_pos m2]), HBa.out.drew⟩
  go_region
  go_upto_region 8 with fail
  have HBb := Lib.hid HBa.out.drew
  by_cases m3 : H ≤ z
  · go_region
    go_wp2_with fail
    go_ret
    exact ⟨ret_int (by rw [HPF.out, if_neg (by omega), if_neg (by omega), if_pos m3]), HBb.out.drew⟩
  go_region
  go_upto_region 10 with fail
  have HBc := Lib.hid HBb.out.drew
  by_cases k1 : x ≤ lo
  · by_cases k2 : y ≤ lo
    · by_cases k3 : z ≤ lo
      · go_region
        go_wp2_with fail
        go_ret
        exact ⟨ret_int (by rw [HPF.out, if_neg (by omega), if_neg (by omega), if_neg (by omega), if_pos ⟨k1, k2, k3⟩]), HBc.out.drew⟩
      · go_region
        go_wp2_with fail
        go_ret
        exact ⟨ret_int (by rw [HPF.out, if_neg (by omega), if_neg (by omega), if_neg (by omega), if_neg (by omega)]), HBc.out.drew⟩
    · go_region
      go_wp2_with fail
      go_ret
      exact ⟨ret_int (by rw [HPF.out, if_neg (by omega), if_neg (by omega), if_neg (by omega), if_neg (by omega)]), HBc.out.drew⟩
  · go_region
    go_wp2_with fail
    go_ret
    exact ⟨ret_int (by rw [HPF.out, if_neg (by omega), if_neg (by omega), if_neg (by omega), if_neg (by omega)]), HBc.out.drew⟩
theorem rpick_any (b : Nat) (C : Nat → Int) (line mode : Int) (w : World) (h : AdaptAt w b (refC C)) :
    Calls Tryd.prog 33 #[.pointer (some ⟨b, 0, none⟩), .int .i64 line, .int .i64 mode] w (PickPost (pickR C line mode) w) := by
  by_cases hl : 0 ≤ line ∧ line ≤ 31 ∧ 0 ≤ mode ∧ mode ≤ 3
  · rw [pickR, if_pos hl]
    exact rpick_ok b C line mode w h hl.1 hl.2.1 hl.2.2.1 hl.2.2.2
  · rw [pickR, if_neg hl]
    refine (rpick_no b line mode w hl).mono ?_
    rintro e w' ⟨rfl, hw⟩
    subst hw
    exact ⟨rfl, Below.refl _ _⟩

end Go.Proofs.YtaecihljgbjmcaaDoor
