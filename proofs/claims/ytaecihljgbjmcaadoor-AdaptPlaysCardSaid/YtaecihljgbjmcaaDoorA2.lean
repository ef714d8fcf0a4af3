/- geom.Area, adapt.count and assentbook.Within: what each answers. -/
import Derived.Test.YtaecihljgbjmcaaDoorA1
import Derived.Lib.Hide
import Derived.BigRegion
namespace Go.Proofs.YtaecihljgbjmcaaDoor
open Go.RowKit

def areaF (n : Int) : Int := if inB n 0 31 then n / 4 else -1

set_option maxHeartbeats 400000 in
theorem area_any (n : Int) (w : World) :
    Calls Tryd.prog 25 #[.int .i64 n] w fun e w' => e = .returned (.int .i64 (areaF n)) ∧ w = w' := by
  cases h : inB n 0 31
  all_goals
    have H := Lib.hid h
    have hb : inB n 0 31 = true → 0 ≤ n ∧ n ≤ 31 := by simp [inB]
    rw [h] at hb
    try (have hb := hb rfl)
    clear h
    go_enter Tryd.func25, Tryd.ntmps25
    go_wp2_with (go_at_call 36; refine (within_any _ _ _ _).mono ?_; rintro e w' ⟨rfl, rfl⟩; rw [H.out])
    go_ret
    exact ⟨by simp [areaF, H.out], rfl⟩

def cntF (up : Bool) (n : Int) : Int := if up then min (n + 1) 15 else max (n - 1) 0

theorem setI {w : World} {a : Addr} {x y : Int} (h : x = y) : w.setCell a (.int .i64 x) = w.setCell a (.int .i64 y) := by rw [h]

set_option maxHeartbeats 400000 in
theorem count_any (b k : Nat) (up : Bool) (n : Int) (w : World) (hc : w.cell? ⟨b, k, none⟩ = some (.int .i64 n)) (hf : w.frozen? ⟨b, k, none⟩ = false) (h0 : 0 ≤ n) (h1 : n ≤ 15) :
    Calls Tryd.prog 35 #[.pointer (some ⟨b, k, none⟩), .bool up] w fun e w' => e = .returned (.tuple #[]) ∧ w.setCell ⟨b, k, none⟩ (.int .i64 (cntF up n)) = w' := by
  cases up
  all_goals
    go_enter Tryd.func35, Tryd.ntmps35
    go_wp2
    all_goals
      go_end0
      exact ⟨rfl, setI (by simp only [cntF, if_true, if_false, Bool.false_eq_true]; omega)⟩

theorem tmod_neg {n k : Int} (hn : n < 0) (hk : 0 < k) : n.tmod k = if n % k = 0 then 0 else n % k - k := by
  have h1 := Int.tmod_eq_emod (a := n) (b := k)
  have h2 : (k.natAbs : Int) = k := by omega
  rw [h1]
  by_cases hd : k ∣ n
  · have : n % k = 0 := Int.emod_eq_zero_of_dvd hd
    simp [this, hd]
  · have : n % k ≠ 0 := fun h => hd (Int.dvd_of_emod_eq_zero h)
    have hh : ¬ 0 ≤ n := by omega
    simp [this, hd, hh, h2]

theorem ret_int {k : IntKind} {a b : Int} (h : a = b) : Ending.returned (.int k a) = .returned (.int k b) := by rw [h]

def wiF (n lo hi : Int) : Int := lo + n % (hi - lo + 1)

theorem wiF_b {n lo hi : Int} (h : lo ≤ hi) : lo ≤ wiF n lo hi ∧ wiF n lo hi ≤ hi := by
  unfold wiF
  have h1 := Int.emod_nonneg n (show hi - lo + 1 ≠ 0 by omega)
  have h2 := Int.emod_lt_of_pos n (show 0 < hi - lo + 1 by omega)
  omega

set_option maxHeartbeats 400000 in
theorem Within_b (n lo hi : Int) (w : World) (h0 : -1000000 ≤ lo) (h1 : lo ≤ hi) (h2 : hi ≤ 1000000) (h3 : -9223372036854775808 ≤ n) (h4 : n ≤ 9223372036854775807) :
    Calls Tryd.prog 19 #[.int .i64 n, .int .i64 lo, .int .i64 hi] w fun e w' => e = .returned (.int .i64 (wiF n lo hi)) ∧ w = w' := by
  have e1 := Int.emod_nonneg n (show hi - lo + 1 ≠ 0 by omega)
  have e2 := Int.emod_lt_of_pos n (show 0 < hi - lo + 1 by omega)
  by_cases hn : 0 ≤ n
  · go_enter Tryd.func19, Tryd.ntmps19
    go_wp2
    go_ret
    exact ⟨ret_int rfl, rfl⟩
  · have ht := tmod_neg (n := n) (k := hi - lo + 1) (by omega) (by omega)
    have hl : n.tmod (hi - lo + 1) ≤ 0 := by rw [ht]; split <;> omega
    have hm : - (hi - lo + 1) < n.tmod (hi - lo + 1) := by rw [ht]; split <;> omega
    have HT := Lib.hid ht
    clear ht
    go_enter Tryd.func19, Tryd.ntmps19
    go_wp2
    all_goals
      go_ret
      exact ⟨ret_int (by have := HT.out; unfold wiF; split at this <;> omega), rfl⟩

end Go.Proofs.YtaecihljgbjmcaaDoor
