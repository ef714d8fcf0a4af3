/- What the numbers' functions of geom answer; no condition. -/
import Derived.Test.YtaecihljgbjmcaaDoorRows
import Derived.WalkKit
import Derived.WalkSpells
import Derived.WalkLawsBesides
import Derived.Deep.QuietTactic
import Derived.BigQuiet
import Derived.BigRegion
import Derived.Lib.Hide
namespace Go.Proofs.YtaecihljgbjmcaaDoor
open Go.RowKit

def inR (n lo hi : Int) : Bool := decide (lo ≤ n) && decide (n ≤ hi)
theorem inR_iff {n lo hi : Int} : inR n lo hi = true ↔ lo ≤ n ∧ n ≤ hi := by simp [inR]
def isPow (n : Int) : Bool := decide (n = 1) || decide (n = 2) || decide (n = 4) || decide (n = 8)
theorem isPow_iff {n : Int} : isPow n = true ↔ n = 1 ∨ n = 2 ∨ n = 4 ∨ n = 8 := by simp [isPow, or_assoc]

set_option maxHeartbeats 400000 in
theorem gwithin (n lo hi : Int) (w : World) :
    Calls Tryd.prog 36 #[.int .i64 n, .int .i64 lo, .int .i64 hi] w fun e w' => e = .returned (.bool (inR n lo hi)) ∧ w = w' := by
  by_cases h1 : lo ≤ n <;> by_cases h2 : n ≤ hi
  all_goals
    go_enter Tryd.func36, Tryd.ntmps36
    go_wp2
    go_ret
    exact ⟨by simp [inR, h1, h2], rfl⟩

set_option maxHeartbeats 400000 in
theorem gpower (n : Int) (w : World) :
    Calls Tryd.prog 37 #[.int .i64 n, .int .i64 8] w fun e w' => e = .returned (.bool (isPow n)) ∧ w = w' := by
  by_cases h1 : 1 ≤ n
  · by_cases h2 : n ≤ 8
    · obtain rfl | rfl | rfl | rfl | rfl | rfl | rfl | rfl : n = 1 ∨ n = 2 ∨ n = 3 ∨ n = 4 ∨ n = 5 ∨ n = 6 ∨ n = 7 ∨ n = 8 := by omega
      all_goals
        go_enter Tryd.func37, Tryd.ntmps37
        go_wp2
        go_ret
        exact ⟨rfl, rfl⟩
    · have hp : isPow n = false := by rw [← Bool.not_eq_true, isPow_iff]; omega
      rw [hp]
      go_enter Tryd.func37, Tryd.ntmps37
      go_wp2
      go_ret
      exact ⟨rfl, rfl⟩
  · have hp : isPow n = false := by rw [← Bool.not_eq_true, isPow_iff]; omega
    rw [hp]
    go_enter Tryd.func37, Tryd.ntmps37
    go_wp2
    go_ret
    exact ⟨rfl, rfl⟩

theorem gright (n : Int) (w : World) :
    Calls Tryd.prog 38 #[.int .i64 n] w fun e w' => e = .returned (.bool (inR n 0 127)) ∧ w = w' := by
  go_enter Tryd.func38, Tryd.ntmps38
  go_wp2_with fail
  refine (gwithin _ _ _ _).mono ?_
  rintro e w' ⟨rfl, rfl⟩
  go_wp2_with fail
  go_ret
  exact ⟨rfl, rfl⟩

def lineF (n : Int) : Int := if inR n 0 127 then n / 4 else -1
def wordF (n : Int) : Int := if inR n 0 127 then n % 4 else -1
def areaG (n : Int) : Int := if inR n 0 31 then n / 4 else -1
def addrF (l w : Int) : Int := if inR l 0 31 && inR w 0 3 then l * 4 + w else -1
def setF (l s : Int) : Int := if inR l 0 31 && isPow s then l % s else -1

set_option maxHeartbeats 400000 in
theorem gline (n : Int) (w : World) :
    Calls Tryd.prog 21 #[.int .i64 n] w fun e w' => e = .returned (.int .i64 (lineF n)) ∧ w = w' := by
  cases h : inR n 0 127
  all_goals
    have H := Lib.hid h
    have hb : inR n 0 127 = true → 0 ≤ n ∧ n ≤ 127 := inR_iff.1
    rw [h] at hb
    try (have hb := hb rfl)
    clear h
    go_enter Tryd.func21, Tryd.ntmps21
    go_wp2_with fail
    refine (gright _ _).mono ?_
    rintro e w' ⟨rfl, rfl⟩
    rw [H.out]
    go_wp2_with fail
    go_ret
    exact ⟨by simp [lineF, H.out], rfl⟩

set_option maxHeartbeats 400000 in
theorem gword (n : Int) (w : World) :
    Calls Tryd.prog 22 #[.int .i64 n] w fun e w' => e = .returned (.int .i64 (wordF n)) ∧ w = w' := by
  cases h : inR n 0 127
  all_goals
    have H := Lib.hid h
    have hb : inR n 0 127 = true → 0 ≤ n ∧ n ≤ 127 := inR_iff.1
    rw [h] at hb
    try (have hb := hb rfl)
    clear h
    go_enter Tryd.func22, Tryd.ntmps22
    go_wp2_with fail
    refine (gright _ _).mono ?_
    rintro e w' ⟨rfl, rfl⟩
    rw [H.out]
    go_wp2_with fail
    go_ret
    exact ⟨by simp [wordF, H.out], rfl⟩

set_option maxHeartbeats 400000 in
theorem garea (n : Int) (w : World) :
    Calls Tryd.prog 25 #[.int .i64 n] w fun e w' => e = .returned (.int .i64 (areaG n)) ∧ w = w' := by
  cases h : inR n 0 31
  all_goals
    have H := Lib.hid h
    have hb : inR n 0 31 = true → 0 ≤ n ∧ n ≤ 31 := inR_iff.1
    rw [h] at hb
    try (have hb := hb rfl)
    clear h
    go_enter Tryd.func25, Tryd.ntmps25
    go_wp2_with fail
    refine (gwithin _ _ _ _).mono ?_
    rintro e w' ⟨rfl, rfl⟩
    rw [H.out]
    go_wp2_with fail
    go_ret
    exact ⟨by simp [areaG, H.out], rfl⟩

set_option maxHeartbeats 400000 in
theorem gaddr (l k : Int) (w : World) :
    Calls Tryd.prog 23 #[.int .i64 l, .int .i64 k] w fun e w' => e = .returned (.int .i64 (addrF l k)) ∧ w = w' := by
  cases h : inR l 0 31
  · go_enter Tryd.func23, Tryd.ntmps23
    have H := Lib.hid h
    clear h
    go_wp2_with fail
    refine (gwithin _ _ _ _).mono ?_
    rintro e w' ⟨rfl, rfl⟩
    rw [H.out]
    go_wp2_with fail
    go_ret
    exact ⟨by simp [addrF, H.out], rfl⟩
  · cases h2 : inR k 0 3
    all_goals
      have H := Lib.hid h
      have H2 := Lib.hid h2
      have hb1 := inR_iff.1 h
      have hb2 : inR k 0 3 = true → 0 ≤ k ∧ k ≤ 3 := inR_iff.1
      rw [h2] at hb2
      try (have hb2 := hb2 rfl)
      clear h h2
      go_enter Tryd.func23, Tryd.ntmps23
      go_wp2_with fail
      refine (gwithin _ _ _ _).mono ?_
      rintro e w' ⟨rfl, rfl⟩
      rw [H.out]
      go_wp2_with fail
      refine (gwithin _ _ _ _).mono ?_
      rintro e w' ⟨rfl, rfl⟩
      rw [H2.out]
      go_wp2_with fail
      go_ret
      exact ⟨by simp [addrF, H.out, H2.out], rfl⟩

set_option maxHeartbeats 400000 in
theorem gset (l s : Int) (w : World) :
    Calls Tryd.prog 24 #[.int .i64 l, .int .i64 s] w fun e w' => e = .returned (.int .i64 (setF l s)) ∧ w = w' := by
  cases h : inR l 0 31
  · go_enter Tryd.func24, Tryd.ntmps24
    have H := Lib.hid h
    clear h
    go_wp2_with fail
    refine (gwithin _ _ _ _).mono ?_
    rintro e w' ⟨rfl, rfl⟩
    rw [H.out]
    go_wp2_with fail
    go_ret
    exact ⟨by simp [setF, H.out], rfl⟩
  · cases h2 : isPow s
    · have H := Lib.hid h
      have H2 := Lib.hid h2
      clear h h2
      go_enter Tryd.func24, Tryd.ntmps24
      go_wp2_with fail
      refine (gwithin _ _ _ _).mono ?_
      rintro e w' ⟨rfl, rfl⟩
      rw [H.out]
      go_wp2_with fail
      refine (gpower _ _).mono ?_
      rintro e w' ⟨rfl, rfl⟩
      rw [H2.out]
      go_wp2_with fail
      go_ret
      exact ⟨by simp [setF, H.out, H2.out], rfl⟩
    · have H := Lib.hid h
      have hb1 := inR_iff.1 h
      obtain rfl | rfl | rfl | rfl := isPow_iff.1 h2
      all_goals
        clear h2 h
        go_enter Tryd.func24, Tryd.ntmps24
        go_wp2_with fail
        refine (gwithin _ _ _ _).mono ?_
        rintro e w' ⟨rfl, rfl⟩
        rw [H.out]
        go_wp2_with fail
        refine (gpower _ _).mono ?_
        rintro e w' ⟨rfl, rfl⟩
        rw [show isPow _ = true from rfl]
        go_wp2_with fail
        go_ret
        exact ⟨by simp [setF, H.out, isPow], rfl⟩

end Go.Proofs.YtaecihljgbjmcaaDoor
