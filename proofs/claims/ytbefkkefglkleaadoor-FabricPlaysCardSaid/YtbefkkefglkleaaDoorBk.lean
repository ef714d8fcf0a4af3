/- assentbook.Within: what it answers. -/
import Derived.Test.YtbefkkefglkleaaDoorRows
import Derived.WalkKit
import Derived.WalkSpells
import Derived.WalkLawsBesides
import Derived.Deep.QuietTactic
import Derived.BigQuiet
import Derived.BigRegion
import Derived.Lib.Hide
namespace Go.Proofs.YtbefkkefglkleaaDoor
open Go.RowKit

theorem tmod_neg {n k : Int} (hn : n < 0) (hk : 0 < k) : n.tmod k = if n % k = 0 then 0 else n % k - k := by
  have h1 := Int.tmod_eq_emod (a := n) (b := k)
  have h2 : (k.natAbs : Int) = k := by omega
  rw [h1]
  by_cases hd : k ∣ n
  · have : n % k = 0 := Int.emod_eq_zero_of_dvd hd
    simp [this, hd]
  · have : n % k ≠ 0 := fun h => hd (Int.dvd_of_emod_eq_zero h)
    have hh : ¬ 0 ≤ n := by omega
    simp [this, hd, hh, h2]

theorem ret_int {k : IntKind} {a b : Int} (h : a = b) : Ending.returned (.int k a) = .returned (.int k b) := by rw [h]

def wiF (n lo hi : Int) : Int := lo + n % (hi - lo + 1)

theorem wiF_b {n lo hi : Int} (h : lo ≤ hi) : lo ≤ wiF n lo hi ∧ wiF n lo hi ≤ hi := by
  unfold wiF
  have h1 := Int.emod_nonneg n (show hi - lo + 1 ≠ 0 by omega)
  have h2 := Int.emod_lt_of_pos n (show 0 < hi - lo + 1 by omega)
  omega

set_option maxHeartbeats 400000 in
theorem Within_b (n lo hi : Int) (w : World) (h0 : -1000000 ≤ lo) (h1 : lo ≤ hi) (h2 : hi ≤ 1000000) (h3 : -9223372036854775808 ≤ n) (h4 : n ≤ 9223372036854775807) :
    Calls Tryd.prog 27 #[.int .i64 n, .int .i64 lo, .int .i64 hi] w fun e w' => e = .returned (.int .i64 (wiF n lo hi)) ∧ w = w' := by
  have e1 := Int.emod_nonneg n (show hi - lo + 1 ≠ 0 by omega)
  have e2 := Int.emod_lt_of_pos n (show 0 < hi - lo + 1 by omega)
  by_cases hn : 0 ≤ n
  · go_enter Tryd.func27, Tryd.ntmps27
    go_wp2
    go_ret
    exact ⟨ret_int rfl, rfl⟩
  · have ht := tmod_neg (n := n) (k := hi - lo + 1) (by omega) (by omega)
    have hl : n.tmod (hi - lo + 1) ≤ 0 := by rw [ht]; split <;> omega
    have hm : - (hi - lo + 1) < n.tmod (hi - lo + 1) := by rw [ht]; split <;> omega
    have HT := Lib.hid ht
    clear ht
    go_enter Tryd.func27, Tryd.ntmps27
    go_wp2
    all_goals
      go_ret
      exact ⟨ret_int (by have := HT.out; unfold wiF; split at this <;> omega), rfl⟩

end Go.Proofs.YtbefkkefglkleaaDoor
