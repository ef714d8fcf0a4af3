/- The document's own answer on a configuration. -/
import Derived.Test.YtaecihljgbjmcaaDoorGeo2
namespace Go.Proofs.YtaecihljgbjmcaaDoor
open Go.RowKit

set_option maxHeartbeats 400000 in
theorem rwithin (n lo hi : Int) (w : World) :
    Calls Tryd.prog 42 #[.int .i64 n, .int .i64 lo, .int .i64 hi] w fun e w' => e = .returned (.bool (inR n lo hi)) ∧ w = w' := by
  by_cases h1 : lo ≤ n <;> by_cases h2 : n ≤ hi
  all_goals
    go_enter Tryd.func42, Tryd.ntmps42
    go_wp2
    go_ret
    exact ⟨by simp [inR, h1, h2], rfl⟩

set_option maxHeartbeats 400000 in
theorem rtwo (n : Int) (w : World) :
    Calls Tryd.prog 43 #[.int .i64 n, .int .i64 8] w fun e w' => e = .returned (.bool (isPow n)) ∧ w = w' := by
  by_cases h1 : 1 ≤ n
  · by_cases h2 : n ≤ 8
    · obtain rfl | rfl | rfl | rfl | rfl | rfl | rfl | rfl : n = 1 ∨ n = 2 ∨ n = 3 ∨ n = 4 ∨ n = 5 ∨ n = 6 ∨ n = 7 ∨ n = 8 := by omega
      all_goals
        go_enter Tryd.func43, Tryd.ntmps43
        go_wp2
        go_ret
        exact ⟨rfl, rfl⟩
    · have hp : isPow n = false := by rw [← Bool.not_eq_true, isPow_iff]; omega
      rw [hp]
      go_enter Tryd.func43, Tryd.ntmps43
      go_wp2
      go_ret
      exact ⟨rfl, rfl⟩
  · have hp : isPow n = false := by rw [← Bool.not_eq_true, isPow_iff]; omega
    rw [hp]
    go_enter Tryd.func43, Tryd.ntmps43
    go_wp2
    go_ret
    exact ⟨rfl, rfl⟩

def rcfgF (g : Nat → Int) : Int := match badAt g with
  | none => -1
  | some i => i
def okR (g : Nat → Int) (c8 : Bool) : Nat → Bool
  | 8 => c8
  | k => okAt g k
theorem badR {g : Nat → Int} {c8 : Bool} (h : okAt g 7 = true → c8 = okAt g 8) : (∀ k, k < 9 → okR g c8 k = false → (∀ j, j < k → okR g c8 j = true) → badAt g = some k) ∧ ((∀ j, j < 9 → okR g c8 j = true) → badAt g = none) := by
  have hne : ∀ j, j < 9 → j ≠ 8 → okR g c8 j = okAt g j := fun j hj h8 => by
    match j, hj, h8 with
    | 0, _, _ => rfl
    | 1, _, _ => rfl
    | 2, _, _ => rfl
    | 3, _, _ => rfl
    | 4, _, _ => rfl
    | 5, _, _ => rfl
    | 6, _, _ => rfl
    | 7, _, _ => rfl
    | 8, _, h => exact absurd rfl h
  have h8 : okR g c8 8 = c8 := rfl
  constructor
  · intro k hk hb hj
    refine badAt_some hk ?_ fun j hjk => by rw [← hne j (by omega) (by omega)]; exact hj j hjk
    by_cases e : k = 8
    · subst e
      rw [← h (by rw [← hne 7 (by omega) (by omega)]; exact hj 7 (by omega)), ← h8]
      exact hb
    · rw [← hne k hk e]
      exact hb
  · intro hj
    refine badAt_none fun j hj9 => ?_
    by_cases e : j = 8
    · subst e
      rw [← h (by rw [← hne 7 (by omega) (by omega)]; exact hj 7 (by omega)), ← h8]
      exact hj 8 (by omega)
    · rw [← hne j hj9 e]
      exact hj j hj9

def oksR (g : Nat → Int) (c8 : Bool) : Obj := .cells #[.bool (okAt g 0), .bool (okAt g 1), .bool (okAt g 2), .bool (okAt g 3), .bool (okAt g 4), .bool (okAt g 5), .bool (okAt g 6), .bool (okAt g 7), .bool c8] 4

set_option maxRecDepth 100000 in
set_option maxHeartbeats 4000000 in
theorem rconfig (g : Nat → Int) (w : World) (hb : ∀ j, j < 9 → -9223372036854775808 ≤ g j ∧ g j ≤ 9223372036854775807) :
    Calls Tryd.prog 27 #[cfgV g] w fun e w' => e = .returned (.int .i64 (rcfgF g)) ∧ Below w.heap.size w w' := by
  have hc : ∀ k v, (#[.int .i64 (g 0), .int .i64 (g 1), .int .i64 (g 2), .int .i64 (g 3), .int .i64 (g 4), .int .i64 (g 5), .int .i64 (g 6), .int .i64 (g 7), .int .i64 (g 8)] : Array Value)[k]? = some v → (w.alloc (cfgO g)).cell? ⟨w.heap.size, k, none⟩ = some v := fun k v h => by
    rw [cfgO, World.cell?_alloc_new]
    exact h
  have hs1 : Below w.heap.size w (w.alloc (cfgO g)) := (Below.refl _ _).alloc (Nat.le_refl _) _
  have hz : (w.alloc (cfgO g)).heap.size = w.heap.size + 1 := by simp
  have h7b := hb 7 (by omega)
  have h8b := hb 8 (by omega)
  have hcmp : ∀ x : Int, (g 7 = -9223372036854775808 ∨ x = g 7 - 1) → (okAt g 7 = true → inR (g 8) (-1) x = okAt g 8) := by
    intro x hx h
    have h7 := inR_iff.1 (show inR (g 7) 1 15 = true from h)
    have hx' : x = g 7 - 1 := by omega
    show inR (g 8) (-1) x = (decide (-1 ≤ g 8) && decide (g 8 < g 7))
    rw [Bool.eq_iff_iff, inR_iff, Bool.and_eq_true, decide_eq_true_eq, decide_eq_true_eq]
    omega
  have ho7 : okAt g 7 = inR (g 7) 1 15 := rfl
  have HO7 := Lib.hid ho7
  have HCMP := Lib.hid hcmp
  clear hcmp hb ho7
  simp only [cfgV]
  unfold cfgO at hc hs1 hz
  generalize hg7 : g 7 = c7 at *
  have HG7 := Lib.hid hg7
  clear hg7
  by_cases hm : c7 = -9223372036854775808
  · subst hm
    go_enter Tryd.func27, Tryd.ntmps27
    go_wp2_with fail
    generalize w.alloc (.cells #[.int .i64 (g 0), .int .i64 (g 1), .int .i64 (g 2), .int .i64 (g 3), .int .i64 (g 4), .int .i64 (g 5), .int .i64 (g 6), .int .i64 (-9223372036854775808), .int .i64 (g 8)] 42) = W at hc hs1 hz ⊢
    have HZ := Lib.hid hz
    have HB := Lib.hid hs1
    have hlt : w.heap.size < W.heap.size := by omega
    refine wp_region_lexA ⟨[42, 43], []⟩ (fun x => Below W.heap.size W x) (by kernel_rfl) (by kernel_rfl) (Below.refl _ _).drew ?_
    intro S hto hof hne
    have hx : ∀ (k : Nat) (v : Value), (#[.int .i64 (g 0), .int .i64 (g 1), .int .i64 (g 2), .int .i64 (g 3), .int .i64 (g 4), .int .i64 (g 5), .int .i64 (g 6), .int .i64 (-9223372036854775808), .int .i64 (g 8)] : Array Value)[k]? = some v → ∀ x : Wd S, x.w.cell? ⟨w.heap.size, k, none⟩ = some v := fun k v h x => ((hto x).cell (p := ⟨w.heap.size, k, none⟩) hlt).trans (hc k v h)
    have hx0 := hx 0 _ rfl
    have hx1 := hx 1 _ rfl
    have hx2 := hx 2 _ rfl
    have hx3 := hx 3 _ rfl
    have hx4 := hx 4 _ rfl
    have hx5 := hx 5 _ rfl
    have hx6 := hx 6 _ rfl
    have hx7 := hx 7 _ rfl
    have hx8 := hx 8 _ rfl
    have Hof := Lib.hid hof
    clear hto hof hx hc hz hs1 hlt
    refine lexW_light 2 (by kernel_rfl) ?_
    simp only [List.take_succ_cons, List.take_zero, List.drop_succ_cons, List.drop_zero]
    repeat (first | go_big_quiet_skip | (go_big_quiet_want; go_big_quiet_op; go_big_quiet_on))
    refine wpQuiet_nil ?_
    refine lexW_pure (by kernel_rfl) (by rfl) rfl Tryd.func42 rfl (by kernel_rfl) (fun x => rwithin (g 0) 1 64 x.w) (by go_simp) ?_
    simp only [Act.put, List.setIfInBounds_toArray, List.set_cons_zero, List.set_cons_succ]
    refine lexW_light 2 (by kernel_rfl) ?_
    simp only [List.take_succ_cons, List.take_zero, List.drop_succ_cons, List.drop_zero]
    repeat (first | go_big_quiet_skip | (go_big_quiet_want; go_big_quiet_op; go_big_quiet_on))
    refine wpQuiet_nil ?_
    refine lexW_pure (by kernel_rfl) (by rfl) rfl Tryd.func42 rfl (by kernel_rfl) (fun x => rwithin (g 1) 1 32 x.w) (by go_simp) ?_
    simp only [Act.put, List.setIfInBounds_toArray, List.set_cons_zero, List.set_cons_succ]
    refine lexW_light 2 (by kernel_rfl) ?_
    simp only [List.take_succ_cons, List.take_zero, List.drop_succ_cons, List.drop_zero]
    repeat (first | go_big_quiet_skip | (go_big_quiet_want; go_big_quiet_op; go_big_quiet_on))
    refine wpQuiet_nil ?_
    refine lexW_pure (by kernel_rfl) (by rfl) rfl Tryd.func43 rfl (by kernel_rfl) (fun x => rtwo (g 2) x.w) (by go_simp) ?_
    simp only [Act.put, List.setIfInBounds_toArray, List.set_cons_zero, List.set_cons_succ]
    refine lexW_light 2 (by kernel_rfl) ?_
    simp only [List.take_succ_cons, List.take_zero, List.drop_succ_cons, List.drop_zero]
    repeat (first | go_big_quiet_skip | (go_big_quiet_want; go_big_quiet_op; go_big_quiet_on))
    refine wpQuiet_nil ?_
    refine lexW_pure (by kernel_rfl) (by rfl) rfl Tryd.func43 rfl (by kernel_rfl) (fun x => rtwo (g 3) x.w) (by go_simp) ?_
    simp only [Act.put, List.setIfInBounds_toArray, List.set_cons_zero, List.set_cons_succ]
    refine lexW_light 2 (by kernel_rfl) ?_
    simp only [List.take_succ_cons, List.take_zero, List.drop_succ_cons, List.drop_zero]
    repeat (first | go_big_quiet_skip | (go_big_quiet_want; go_big_quiet_op; go_big_quiet_on))
    refine wpQuiet_nil ?_
    refine lexW_pure (by kernel_rfl) (by rfl) rfl Tryd.func42 rfl (by kernel_rfl) (fun x => rwithin (g 4) 1 8 x.w) (by go_simp) ?_
    simp only [Act.put, List.setIfInBounds_toArray, List.set_cons_zero, List.set_cons_succ]
    refine lexW_light 2 (by kernel_rfl) ?_
    simp only [List.take_succ_cons, List.take_zero, List.drop_succ_cons, List.drop_zero]
    repeat (first | go_big_quiet_skip | (go_big_quiet_want; go_big_quiet_op; go_big_quiet_on))
    refine wpQuiet_nil ?_
    refine lexW_pure (by kernel_rfl) (by rfl) rfl Tryd.func42 rfl (by kernel_rfl) (fun x => rwithin (g 5) 1 8 x.w) (by go_simp) ?_
    simp only [Act.put, List.setIfInBounds_toArray, List.set_cons_zero, List.set_cons_succ]
    refine lexW_light 2 (by kernel_rfl) ?_
    simp only [List.take_succ_cons, List.take_zero, List.drop_succ_cons, List.drop_zero]
    repeat (first | go_big_quiet_skip | (go_big_quiet_want; go_big_quiet_op; go_big_quiet_on))
    refine wpQuiet_nil ?_
    refine lexW_pure (by kernel_rfl) (by rfl) rfl Tryd.func42 rfl (by kernel_rfl) (fun x => rwithin (g 6) 1 64 x.w) (by go_simp) ?_
    simp only [Act.put, List.setIfInBounds_toArray, List.set_cons_zero, List.set_cons_succ]
    refine lexW_light 2 (by kernel_rfl) ?_
    simp only [List.take_succ_cons, List.take_zero, List.drop_succ_cons, List.drop_zero]
    repeat (first | go_big_quiet_skip | (go_big_quiet_want; go_big_quiet_op; go_big_quiet_on))
    refine wpQuiet_nil ?_
    refine lexW_pure (by kernel_rfl) (by rfl) rfl Tryd.func42 rfl (by kernel_rfl) (fun x => rwithin (-9223372036854775808) 1 15 x.w) (by go_simp) ?_
    simp only [Act.put, List.setIfInBounds_toArray, List.set_cons_zero, List.set_cons_succ]
    refine lexW_light 5 (by kernel_rfl) ?_
    simp only [List.take_succ_cons, List.take_zero, List.drop_succ_cons, List.drop_zero]
    repeat (first | go_big_quiet_skip | (go_big_quiet_want; go_big_quiet_op; go_big_quiet_on))
    refine wpQuiet_nil ?_
    refine lexW_pure (by kernel_rfl) (by rfl) rfl Tryd.func42 rfl (by kernel_rfl) (fun x => rwithin (g 8) (-1) (wrap64 (-9223372036854775809)) x.w) (by go_simp) ?_
    simp only [Act.put, List.setIfInBounds_toArray, List.set_cons_zero, List.set_cons_succ]
    clear hx0 hx1 hx2 hx3 hx4 hx5 hx6 hx7 hx8
    have hbad := badR (g := g) (c8 := inR (g 8) (-1) (wrap64 (-9223372036854775809))) (HCMP.out _ (by simp))
    generalize inR (g 8) (-1) (wrap64 (-9223372036854775809)) = c8 at *
    refine lexW_heavy (by kernel_rfl) ?_
    go_wp2_with fail
    refine lexQ_more (Hof.out _ ?_) ?_
    · exact ((Below.refl W.heap.size W).alloc (Nat.le_refl _) _).drew
    have hq : ∀ k, k < 9 → (W.alloc (oksR g c8)).drew.cell? ⟨W.heap.size, k, none⟩ = some (.bool (okR g c8 k)) := fun k hk => by
      refine (World.cell?_alloc_new W _ 4 k).trans ?_
      match k, hk with
      | 0, _ => rfl
      | 1, _ => rfl
      | 2, _ => rfl
      | 3, _ => rfl
      | 4, _ => rfl
      | 5, _ => rfl
      | 6, _ => rfl
      | 7, _ => rfl
      | 8, _ => rfl
    have hB2 : Below w.heap.size w (W.alloc (oksR g c8)).drew := (HB.out.alloc (by have := HZ.out; omega) _).drew
    have he : oksR g c8 = .cells #[.bool (inR (g 0) 1 64), .bool (inR (g 1) 1 32), .bool (isPow (g 2)), .bool (isPow (g 3)), .bool (inR (g 4) 1 8), .bool (inR (g 5) 1 8), .bool (inR (g 6) 1 64), .bool (inR (-9223372036854775808) 1 15), .bool c8] 4 := by
      rw [← HG7.out]
      rfl
    rw [he] at hq hB2
    clear he
    generalize (W.alloc (.cells #[.bool (inR (g 0) 1 64), .bool (inR (g 1) 1 32), .bool (isPow (g 2)), .bool (isPow (g 3)), .bool (inR (g 4) 1 8), .bool (inR (g 5) 1 8), .bool (inR (g 6) 1 64), .bool (inR (-9223372036854775808) 1 15), .bool c8] 4)).drew = X at hq hB2 ⊢
    clear Hof HCMP
    refine lexW_light 1 (by kernel_rfl) ?_
    simp only [List.take_succ_cons, List.take_zero, List.drop_succ_cons, List.drop_zero]
    repeat (first | go_big_quiet_skip | (go_big_quiet_want; go_big_quiet_op; go_big_quiet_on))
    refine wpQuiet_nil ?_
    refine lexW_done ?_
    go_wp2_with fail
    go_loopw [4] (fun i wr => ∃ k : Nat, k ≤ 9 ∧ i = .int .i64 k ∧ (∀ j, j < k → okR g c8 j = true) ∧ wr = X) (fun i _ => 9 - (intOf i).toNat)
    case atStart => exact ⟨0, by omega, rfl, fun j hj => by omega, rfl⟩
    case round =>
      obtain ⟨k, hk, rfl, hok, rfl⟩ := hrel
      by_cases hk9 : k < 9
      · have hck := hq k hk9
        have HQ := Lib.hid hq
        have HOK := Lib.hid hok
        have HBD := Lib.hid hbad
        clear hq hok hbad
        cases hb : okR g c8 k with
        | true =>
          rw [hb] at hck
          go_wp2_with fail
          go_roundw
          case rel => exact ⟨k + 1, by omega, by go_num, fun j hj => by
            rcases Nat.lt_succ_iff_lt_or_eq.1 hj with h | rfl
            · exact HOK.out j h
            · exact hb, trivial⟩
          case measure => simp [intOf]; omega
        | false =>
          rw [hb] at hck
          go_wp2_with fail
          go_ret
          refine ⟨?_, hB2⟩
          rw [rcfgF, HBD.out.1 k hk9 hb HOK.out]
          rfl
      · have hk9' : k = 9 := by omega
        subst hk9'
        have HOK := Lib.hid hok
        have HBD := Lib.hid hbad
        clear hq hok hbad
        go_wp2_with fail
        go_ret
        refine ⟨?_, hB2⟩
        rw [rcfgF, HBD.out.2 HOK.out]
        rfl
  · have hmm : -9223372036854775807 ≤ c7 := by omega
    clear hm
    go_enter Tryd.func27, Tryd.ntmps27
    go_wp2_with fail
    generalize w.alloc (.cells #[.int .i64 (g 0), .int .i64 (g 1), .int .i64 (g 2), .int .i64 (g 3), .int .i64 (g 4), .int .i64 (g 5), .int .i64 (g 6), .int .i64 c7, .int .i64 (g 8)] 42) = W at hc hs1 hz ⊢
    have HZ := Lib.hid hz
    have HB := Lib.hid hs1
    have hlt : w.heap.size < W.heap.size := by omega
    refine wp_region_lexA ⟨[42, 43], []⟩ (fun x => Below W.heap.size W x) (by kernel_rfl) (by kernel_rfl) (Below.refl _ _).drew ?_
    intro S hto hof hne
    have hx : ∀ (k : Nat) (v : Value), (#[.int .i64 (g 0), .int .i64 (g 1), .int .i64 (g 2), .int .i64 (g 3), .int .i64 (g 4), .int .i64 (g 5), .int .i64 (g 6), .int .i64 c7, .int .i64 (g 8)] : Array Value)[k]? = some v → ∀ x : Wd S, x.w.cell? ⟨w.heap.size, k, none⟩ = some v := fun k v h x => ((hto x).cell (p := ⟨w.heap.size, k, none⟩) hlt).trans (hc k v h)
    have hx0 := hx 0 _ rfl
    have hx1 := hx 1 _ rfl
    have hx2 := hx 2 _ rfl
    have hx3 := hx 3 _ rfl
    have hx4 := hx 4 _ rfl
    have hx5 := hx 5 _ rfl
    have hx6 := hx 6 _ rfl
    have hx7 := hx 7 _ rfl
    have hx8 := hx 8 _ rfl
    have Hof := Lib.hid hof
    clear hto hof hx hc hz hs1 hlt
    refine lexW_light 2 (by kernel_rfl) ?_
    simp only [List.take_succ_cons, List.take_zero, List.drop_succ_cons, List.drop_zero]
    repeat (first | go_big_quiet_skip | (go_big_quiet_want; go_big_quiet_op; go_big_quiet_on))
    refine wpQuiet_nil ?_
    refine lexW_pure (by kernel_rfl) (by rfl) rfl Tryd.func42 rfl (by kernel_rfl) (fun x => rwithin (g 0) 1 64 x.w) (by go_simp) ?_
    simp only [Act.put, List.setIfInBounds_toArray, List.set_cons_zero, List.set_cons_succ]
    refine lexW_light 2 (by kernel_rfl) ?_
    simp only [List.take_succ_cons, List.take_zero, List.drop_succ_cons, List.drop_zero]
    repeat (first | go_big_quiet_skip | (go_big_quiet_want; go_big_quiet_op; go_big_quiet_on))
    refine wpQuiet_nil ?_
    refine lexW_pure (by kernel_rfl) (by rfl) rfl Tryd.func42 rfl (by kernel_rfl) (fun x => rwithin (g 1) 1 32 x.w) (by go_simp) ?_
    simp only [Act.put, List.setIfInBounds_toArray, List.set_cons_zero, List.set_cons_succ]
    refine lexW_light 2 (by kernel_rfl) ?_
    simp only [List.take_succ_cons, List.take_zero, List.drop_succ_cons, List.drop_zero]
    repeat (first | go_big_quiet_skip | (go_big_quiet_want; go_big_quiet_op; go_big_quiet_on))
    refine wpQuiet_nil ?_
    refine lexW_pure (by kernel_rfl) (by rfl) rfl Tryd.func43 rfl (by kernel_rfl) (fun x => rtwo (g 2) x.w) (by go_simp) ?_
    simp only [Act.put, List.setIfInBounds_toArray, List.set_cons_zero, List.set_cons_succ]
    refine lexW_light 2 (by kernel_rfl) ?_
    simp only [List.take_succ_cons, List.take_zero, List.drop_succ_cons, List.drop_zero]
    repeat (first | go_big_quiet_skip | (go_big_quiet_want; go_big_quiet_op; go_big_quiet_on))
    refine wpQuiet_nil ?_
    refine lexW_pure (by kernel_rfl) (by rfl) rfl Tryd.func43 rfl (by kernel_rfl) (fun x => rtwo (g 3) x.w) (by go_simp) ?_
    simp only [Act.put, List.setIfInBounds_toArray, List.set_cons_zero, List.set_cons_succ]
    refine lexW_light 2 (by kernel_rfl) ?_
    simp only [List.take_succ_cons, List.take_zero, List.drop_succ_cons, List.drop_zero]
    repeat (first | go_big_quiet_skip | (go_big_quiet_want; go_big_quiet_op; go_big_quiet_on))
    refine wpQuiet_nil ?_
    refine lexW_pure (by kernel_rfl) (by rfl) rfl Tryd.func42 rfl (by kernel_rfl) (fun x => rwithin (g 4) 1 8 x.w) (by go_simp) ?_
    simp only [Act.put, List.setIfInBounds_toArray, List.set_cons_zero, List.set_cons_succ]
    refine lexW_light 2 (by kernel_rfl) ?_
    simp only [List.take_succ_cons, List.take_zero, List.drop_succ_cons, List.drop_zero]
    repeat (first | go_big_quiet_skip | (go_big_quiet_want; go_big_quiet_op; go_big_quiet_on))
    refine wpQuiet_nil ?_
    refine lexW_pure (by kernel_rfl) (by rfl) rfl Tryd.func42 rfl (by kernel_rfl) (fun x => rwithin (g 5) 1 8 x.w) (by go_simp) ?_
    simp only [Act.put, List.setIfInBounds_toArray, List.set_cons_zero, List.set_cons_succ]
    refine lexW_light 2 (by kernel_rfl) ?_
    simp only [List.take_succ_cons, List.take_zero, List.drop_succ_cons, List.drop_zero]
    repeat (first | go_big_quiet_skip | (go_big_quiet_want; go_big_quiet_op; go_big_quiet_on))
    refine wpQuiet_nil ?_
    refine lexW_pure (by kernel_rfl) (by rfl) rfl Tryd.func42 rfl (by kernel_rfl) (fun x => rwithin (g 6) 1 64 x.w) (by go_simp) ?_
    simp only [Act.put, List.setIfInBounds_toArray, List.set_cons_zero, List.set_cons_succ]
    refine lexW_light 2 (by kernel_rfl) ?_
    simp only [List.take_succ_cons, List.take_zero, List.drop_succ_cons, List.drop_zero]
    repeat (first | go_big_quiet_skip | (go_big_quiet_want; go_big_quiet_op; go_big_quiet_on))
    refine wpQuiet_nil ?_
    refine lexW_pure (by kernel_rfl) (by rfl) rfl Tryd.func42 rfl (by kernel_rfl) (fun x => rwithin c7 1 15 x.w) (by go_simp) ?_
    simp only [Act.put, List.setIfInBounds_toArray, List.set_cons_zero, List.set_cons_succ]
    refine lexW_light 5 (by kernel_rfl) ?_
    simp only [List.take_succ_cons, List.take_zero, List.drop_succ_cons, List.drop_zero]
    repeat (first | go_big_quiet_skip | (go_big_quiet_want; go_big_quiet_op; go_big_quiet_on))
    refine wpQuiet_nil ?_
    refine lexW_pure (by kernel_rfl) (by rfl) rfl Tryd.func42 rfl (by kernel_rfl) (fun x => rwithin (g 8) (-1) (c7 - 1) x.w) (by go_simp) ?_
    simp only [Act.put, List.setIfInBounds_toArray, List.set_cons_zero, List.set_cons_succ]
    clear hx0 hx1 hx2 hx3 hx4 hx5 hx6 hx7 hx8
    have hbad := badR (g := g) (c8 := inR (g 8) (-1) (c7 - 1)) (HCMP.out _ (.inr rfl))
    generalize inR (g 8) (-1) (c7 - 1) = c8 at *
    refine lexW_heavy (by kernel_rfl) ?_
    go_wp2_with fail
    refine lexQ_more (Hof.out _ ?_) ?_
    · exact ((Below.refl W.heap.size W).alloc (Nat.le_refl _) _).drew
    have hq : ∀ k, k < 9 → (W.alloc (oksR g c8)).drew.cell? ⟨W.heap.size, k, none⟩ = some (.bool (okR g c8 k)) := fun k hk => by
      refine (World.cell?_alloc_new W _ 4 k).trans ?_
      match k, hk with
      | 0, _ => rfl
      | 1, _ => rfl
      | 2, _ => rfl
      | 3, _ => rfl
      | 4, _ => rfl
      | 5, _ => rfl
      | 6, _ => rfl
      | 7, _ => rfl
      | 8, _ => rfl
    have hB2 : Below w.heap.size w (W.alloc (oksR g c8)).drew := (HB.out.alloc (by have := HZ.out; omega) _).drew
    have he : oksR g c8 = .cells #[.bool (inR (g 0) 1 64), .bool (inR (g 1) 1 32), .bool (isPow (g 2)), .bool (isPow (g 3)), .bool (inR (g 4) 1 8), .bool (inR (g 5) 1 8), .bool (inR (g 6) 1 64), .bool (inR c7 1 15), .bool c8] 4 := by
      rw [← HG7.out]
      rfl
    rw [he] at hq hB2
    clear he
    generalize (W.alloc (.cells #[.bool (inR (g 0) 1 64), .bool (inR (g 1) 1 32), .bool (isPow (g 2)), .bool (isPow (g 3)), .bool (inR (g 4) 1 8), .bool (inR (g 5) 1 8), .bool (inR (g 6) 1 64), .bool (inR c7 1 15), .bool c8] 4)).drew = X at hq hB2 ⊢
    clear Hof HCMP
    refine lexW_light 1 (by kernel_rfl) ?_
    simp only [List.take_succ_cons, List.take_zero, List.drop_succ_cons, List.drop_zero]
    repeat (first | go_big_quiet_skip | (go_big_quiet_want; go_big_quiet_op; go_big_quiet_on))
    refine wpQuiet_nil ?_
    refine lexW_done ?_
    go_wp2_with fail
    go_loopw [4] (fun i wr => ∃ k : Nat, k ≤ 9 ∧ i = .int .i64 k ∧ (∀ j, j < k → okR g c8 j = true) ∧ wr = X) (fun i _ => 9 - (intOf i).toNat)
    case atStart => exact ⟨0, by omega, rfl, fun j hj => by omega, rfl⟩
    case round =>
      obtain ⟨k, hk, rfl, hok, rfl⟩ := hrel
      by_cases hk9 : k < 9
      · have hck := hq k hk9
        have HQ := Lib.hid hq
        have HOK := Lib.hid hok
        have HBD := Lib.hid hbad
        clear hq hok hbad
        cases hb : okR g c8 k with
        | true =>
          rw [hb] at hck
          go_wp2_with fail
          go_roundw
          case rel => exact ⟨k + 1, by omega, by go_num, fun j hj => by
            rcases Nat.lt_succ_iff_lt_or_eq.1 hj with h | rfl
            · exact HOK.out j h
            · exact hb, trivial⟩
          case measure => simp [intOf]; omega
        | false =>
          rw [hb] at hck
          go_wp2_with fail
          go_ret
          refine ⟨?_, hB2⟩
          rw [rcfgF, HBD.out.1 k hk9 hb HOK.out]
          rfl
      · have hk9' : k = 9 := by omega
        subst hk9'
        have HOK := Lib.hid hok
        have HBD := Lib.hid hbad
        clear hq hok hbad
        go_wp2_with fail
        go_ret
        refine ⟨?_, hB2⟩
        rw [rcfgF, HBD.out.2 HOK.out]
        rfl

end Go.Proofs.YtaecihljgbjmcaaDoor
