/- geom.Check: the error that it answers. -/
import Derived.Test.YtaecihljgbjmcaaDoorGeo1
import Derived.Test.YtaecihljgbjmcaaDoorErr6
import Derived.Test.YtaecihljgbjmcaaDoorLex
namespace Go.Proofs.YtaecihljgbjmcaaDoor
open Go.RowKit

/-- A configuration: its nine numbers. -/
def cfgV (g : Nat → Int) : Value := .agg #[.int .i64 (g 0), .int .i64 (g 1), .int .i64 (g 2), .int .i64 (g 3), .int .i64 (g 4), .int .i64 (g 5), .int .i64 (g 6), .int .i64 (g 7), .int .i64 (g 8)]
def cfgO (g : Nat → Int) : Obj := .cells #[.int .i64 (g 0), .int .i64 (g 1), .int .i64 (g 2), .int .i64 (g 3), .int .i64 (g 4), .int .i64 (g 5), .int .i64 (g 6), .int .i64 (g 7), .int .i64 (g 8)] 42
def okAt (g : Nat → Int) : Nat → Bool
  | 0 => inR (g 0) 1 64
  | 1 => inR (g 1) 1 32
  | 2 => isPow (g 2)
  | 3 => isPow (g 3)
  | 4 => inR (g 4) 1 8
  | 5 => inR (g 5) 1 8
  | 6 => inR (g 6) 1 64
  | 7 => inR (g 7) 1 15
  | _ => decide (-1 ≤ g 8) && decide (g 8 < g 7)
def gcT : ByteArray := ⟨#[103, 101, 111, 109, 46, 67, 104, 101, 99, 107]⟩
def badAt (g : Nat → Int) : Option Nat := (List.range 9).find? fun i => !okAt g i
def cfgErr (g : Nat → Int) : ErrT := match badAt g with
  | none => .nil
  | some i => .wrap gcT i (.sent 0)
theorem badAt_some {g : Nat → Int} {k : Nat} (hk : k < 9) (hb : okAt g k = false) (hj : ∀ j, j < k → okAt g j = true) : badAt g = some k := by
  unfold badAt
  rw [List.find?_range_eq_some]
  exact ⟨by simp [hb], List.mem_range.2 hk, fun j h => by simp [hj j h]⟩
theorem badAt_none {g : Nat → Int} (hj : ∀ j, j < 9 → okAt g j = true) : badAt g = none := by
  unfold badAt
  rw [List.find?_range_eq_none]
  exact fun j h => by simp [hj j h]
theorem badAt_none_iff {g : Nat → Int} : badAt g = none ↔ ∀ j, j < 9 → okAt g j = true := by
  refine ⟨fun h j hj => ?_, badAt_none⟩
  unfold badAt at h
  rw [List.find?_range_eq_none] at h
  simpa using h j hj
theorem cfgErr_wf (g : Nat → Int) : (cfgErr g).wf := by
  unfold cfgErr
  split
  · trivial
  · exact ⟨rfl, by simp [ErrT.wf]⟩

/-- The loop over the answers, from the region that lays them on. -/
def oksO (g : Nat → Int) : Obj := .cells #[.bool (okAt g 0), .bool (okAt g 1), .bool (okAt g 2), .bool (okAt g 3), .bool (okAt g 4), .bool (okAt g 5), .bool (okAt g 6), .bool (okAt g 7), .bool (okAt g 8)] 4

set_option maxRecDepth 100000 in
set_option maxHeartbeats 4000000 in
theorem gcheck (A : Nat → Addr) (g : Nat → Int) (w : World) (hs : SentAt w A) :
    Calls Tryd.prog 20 #[cfgV g] w fun e w' => e = .returned ((cfgErr g).val A) ∧ Below w.heap.size w w' := by
  have hc : ∀ k v, (#[.int .i64 (g 0), .int .i64 (g 1), .int .i64 (g 2), .int .i64 (g 3), .int .i64 (g 4), .int .i64 (g 5), .int .i64 (g 6), .int .i64 (g 7), .int .i64 (g 8)] : Array Value)[k]? = some v → (w.alloc (cfgO g)).cell? ⟨w.heap.size, k, none⟩ = some v := fun k v h => by
    rw [cfgO, World.cell?_alloc_new]
    exact h
  have hs1 : Below w.heap.size w (w.alloc (cfgO g)) := (Below.refl _ _).alloc (Nat.le_refl _) _
  have hz : (w.alloc (cfgO g)).heap.size = w.heap.size + 1 := by simp
  simp only [cfgV]
  unfold cfgO at hc hs1 hz
  cases h8 : decide (-1 ≤ g 8)
  all_goals
    go_enter Tryd.func20, Tryd.ntmps20
    go_wp2_with fail
    generalize w.alloc (.cells #[.int .i64 (g 0), .int .i64 (g 1), .int .i64 (g 2), .int .i64 (g 3), .int .i64 (g 4), .int .i64 (g 5), .int .i64 (g 6), .int .i64 (g 7), .int .i64 (g 8)] 42) = W at hc hs1 hz ⊢
    have HS := Lib.hid hs
    have HZ := Lib.hid hz
    have HB := Lib.hid hs1
    have hlt : w.heap.size < W.heap.size := by omega
    refine wp_region_lexA ⟨[36, 37], []⟩ (fun x => Below W.heap.size W x) (by kernel_rfl) (by kernel_rfl) (Below.refl _ _).drew ?_
    intro S hto hof hne
    have hx : ∀ (k : Nat) (v : Value), (#[.int .i64 (g 0), .int .i64 (g 1), .int .i64 (g 2), .int .i64 (g 3), .int .i64 (g 4), .int .i64 (g 5), .int .i64 (g 6), .int .i64 (g 7), .int .i64 (g 8)] : Array Value)[k]? = some v → ∀ x : Wd S, x.w.cell? ⟨w.heap.size, k, none⟩ = some v := fun k v h x => ((hto x).cell (p := ⟨w.heap.size, k, none⟩) hlt).trans (hc k v h)
    have hx0 := hx 0 _ rfl
    have hx1 := hx 1 _ rfl
    have hx2 := hx 2 _ rfl
    have hx3 := hx 3 _ rfl
    have hx4 := hx 4 _ rfl
    have hx5 := hx 5 _ rfl
    have hx6 := hx 6 _ rfl
    have hx7 := hx 7 _ rfl
    have hx8 := hx 8 _ rfl
    have Hof := Lib.hid hof
    have Hto := Lib.hid hto
    have HC := Lib.hid hc
    clear hto hof hx hc hz hs1 hs hlt
    refine lexW_light 2 (by kernel_rfl) ?_
    simp only [List.take_succ_cons, List.take_zero, List.drop_succ_cons, List.drop_zero]
    repeat (first | go_big_quiet_skip | (go_big_quiet_want; go_big_quiet_op; go_big_quiet_on))
    refine wpQuiet_nil ?_
    refine lexW_pure (by kernel_rfl) (by rfl) rfl Tryd.func36 rfl (by kernel_rfl) (fun x => gwithin (g 0) 1 64 x.w) (by go_simp) ?_
    simp only [Act.put, List.setIfInBounds_toArray, List.set_cons_zero, List.set_cons_succ]
    refine lexW_light 2 (by kernel_rfl) ?_
    simp only [List.take_succ_cons, List.take_zero, List.drop_succ_cons, List.drop_zero]
    repeat (first | go_big_quiet_skip | (go_big_quiet_want; go_big_quiet_op; go_big_quiet_on))
    refine wpQuiet_nil ?_
    refine lexW_pure (by kernel_rfl) (by rfl) rfl Tryd.func36 rfl (by kernel_rfl) (fun x => gwithin (g 1) 1 32 x.w) (by go_simp) ?_
    simp only [Act.put, List.setIfInBounds_toArray, List.set_cons_zero, List.set_cons_succ]
    refine lexW_light 2 (by kernel_rfl) ?_
    simp only [List.take_succ_cons, List.take_zero, List.drop_succ_cons, List.drop_zero]
    repeat (first | go_big_quiet_skip | (go_big_quiet_want; go_big_quiet_op; go_big_quiet_on))
    refine wpQuiet_nil ?_
    refine lexW_pure (by kernel_rfl) (by rfl) rfl Tryd.func37 rfl (by kernel_rfl) (fun x => gpower (g 2) x.w) (by go_simp) ?_
    simp only [Act.put, List.setIfInBounds_toArray, List.set_cons_zero, List.set_cons_succ]
    refine lexW_light 2 (by kernel_rfl) ?_
    simp only [List.take_succ_cons, List.take_zero, List.drop_succ_cons, List.drop_zero]
    repeat (first | go_big_quiet_skip | (go_big_quiet_want; go_big_quiet_op; go_big_quiet_on))
    refine wpQuiet_nil ?_
    refine lexW_pure (by kernel_rfl) (by rfl) rfl Tryd.func37 rfl (by kernel_rfl) (fun x => gpower (g 3) x.w) (by go_simp) ?_
    simp only [Act.put, List.setIfInBounds_toArray, List.set_cons_zero, List.set_cons_succ]
    refine lexW_light 2 (by kernel_rfl) ?_
    simp only [List.take_succ_cons, List.take_zero, List.drop_succ_cons, List.drop_zero]
    repeat (first | go_big_quiet_skip | (go_big_quiet_want; go_big_quiet_op; go_big_quiet_on))
    refine wpQuiet_nil ?_
    refine lexW_pure (by kernel_rfl) (by rfl) rfl Tryd.func36 rfl (by kernel_rfl) (fun x => gwithin (g 4) 1 8 x.w) (by go_simp) ?_
    simp only [Act.put, List.setIfInBounds_toArray, List.set_cons_zero, List.set_cons_succ]
    refine lexW_light 2 (by kernel_rfl) ?_
    simp only [List.take_succ_cons, List.take_zero, List.drop_succ_cons, List.drop_zero]
    repeat (first | go_big_quiet_skip | (go_big_quiet_want; go_big_quiet_op; go_big_quiet_on))
    refine wpQuiet_nil ?_
    refine lexW_pure (by kernel_rfl) (by rfl) rfl Tryd.func36 rfl (by kernel_rfl) (fun x => gwithin (g 5) 1 8 x.w) (by go_simp) ?_
    simp only [Act.put, List.setIfInBounds_toArray, List.set_cons_zero, List.set_cons_succ]
    refine lexW_light 2 (by kernel_rfl) ?_
    simp only [List.take_succ_cons, List.take_zero, List.drop_succ_cons, List.drop_zero]
    repeat (first | go_big_quiet_skip | (go_big_quiet_want; go_big_quiet_op; go_big_quiet_on))
    refine wpQuiet_nil ?_
    refine lexW_pure (by kernel_rfl) (by rfl) rfl Tryd.func36 rfl (by kernel_rfl) (fun x => gwithin (g 6) 1 64 x.w) (by go_simp) ?_
    simp only [Act.put, List.setIfInBounds_toArray, List.set_cons_zero, List.set_cons_succ]
    refine lexW_light 2 (by kernel_rfl) ?_
    simp only [List.take_succ_cons, List.take_zero, List.drop_succ_cons, List.drop_zero]
    repeat (first | go_big_quiet_skip | (go_big_quiet_want; go_big_quiet_op; go_big_quiet_on))
    refine wpQuiet_nil ?_
    refine lexW_pure (by kernel_rfl) (by rfl) rfl Tryd.func36 rfl (by kernel_rfl) (fun x => gwithin (g 7) 1 15 x.w) (by go_simp) ?_
    simp only [Act.put, List.setIfInBounds_toArray, List.set_cons_zero, List.set_cons_succ]
    refine lexW_light 10 (by kernel_rfl) ?_
    simp only [List.take_succ_cons, List.take_zero, List.drop_succ_cons, List.drop_zero]
    repeat (first | go_big_quiet_skip | (go_big_quiet_want; go_big_quiet_op; go_big_quiet_on))
    refine wpQuiet_nil ?_
    clear hx0 hx1 hx2 hx3 hx4 hx5 hx6 hx7 hx8
    refine lexW_heavy (by kernel_rfl) ?_
    go_wp2_with fail
    refine lexQ_more (Hof.out _ ?_) ?_
    · exact ((Below.refl W.heap.size W).alloc (Nat.le_refl _) _).drew
    have hq : ∀ k, k < 9 → (W.alloc (oksO g)).drew.cell? ⟨W.heap.size, k, none⟩ = some (.bool (okAt g k)) := fun k hk => by
      refine (World.cell?_alloc_new W _ 4 k).trans ?_
      match k, hk with
      | 0, _ => rfl
      | 1, _ => rfl
      | 2, _ => rfl
      | 3, _ => rfl
      | 4, _ => rfl
      | 5, _ => rfl
      | 6, _ => rfl
      | 7, _ => rfl
      | 8, _ => rfl
    have hB2 : Below w.heap.size w (W.alloc (oksO g)).drew := (HB.out.alloc (by have := HZ.out; omega) _).drew
    have he : oksO g = .cells #[.bool (inR (g 0) 1 64), .bool (inR (g 1) 1 32), .bool (isPow (g 2)), .bool (isPow (g 3)), .bool (inR (g 4) 1 8), .bool (inR (g 5) 1 8), .bool (inR (g 6) 1 64), .bool (inR (g 7) 1 15), .bool (decide (-1 ≤ g 8) && decide (g 8 < g 7))] 4 := rfl
    rw [h8] at he
    first | rw [Bool.true_and] at he | rw [Bool.false_and] at he
    rw [he] at hq hB2
    clear he
    generalize (W.alloc (.cells #[.bool (inR (g 0) 1 64), .bool (inR (g 1) 1 32), .bool (isPow (g 2)), .bool (isPow (g 3)), .bool (inR (g 4) 1 8), .bool (inR (g 5) 1 8), .bool (inR (g 6) 1 64), .bool (inR (g 7) 1 15), _] 4)).drew = X at hq hB2 ⊢
    have hs2 := HS.out.below hB2
    clear Hof Hto HC HS h8
    refine lexW_light 2 (by kernel_rfl) ?_
    simp only [List.take_succ_cons, List.take_zero, List.drop_succ_cons, List.drop_zero]
    repeat (first | go_big_quiet_skip | (go_big_quiet_want; go_big_quiet_op; go_big_quiet_on))
    refine wpQuiet_nil ?_
    refine lexW_done ?_
    go_wp2_with fail
    have hg0 : X.cell? ⟨0, 0, none⟩ = some (.iface 110 (.pointer (some (A 0)))) := hs2.glob 0 (by omega)
    go_loopw [41] (fun i wr => ∃ k : Nat, k ≤ 9 ∧ i = .int .i64 k ∧ (∀ j, j < k → okAt g j = true) ∧ wr = X) (fun i _ => 9 - (intOf i).toNat)
    case atStart => exact ⟨0, by omega, rfl, fun j hj => by omega, rfl⟩
    case round =>
      obtain ⟨k, hk, rfl, hok, rfl⟩ := hrel
      by_cases hk9 : k < 9
      · have hck := hq k hk9
        have HQ := Lib.hid hq
        have HOK := Lib.hid hok
        clear hq hok
        cases hb : okAt g k with
        | true =>
          rw [hb] at hck
          go_wp2_with fail
          go_roundw
          case rel => exact ⟨k + 1, by omega, by go_num, fun j hj => by
            rcases Nat.lt_succ_iff_lt_or_eq.1 hj with h | rfl
            · exact HOK.out j h
            · exact hb, trivial⟩
          case measure => simp [intOf]; omega
        | false =>
          rw [hb] at hck
          go_wp2_with fail
          refine (wrap_c A _ _ (.sent 0) _).mono ?_
          rintro e w' ⟨rfl, rfl⟩
          go_wp2_with fail
          go_ret
          refine ⟨?_, hB2⟩
          rw [cfgErr, badAt_some hk9 hb HOK.out]
          rfl
      · have hk9' : k = 9 := by omega
        subst hk9'
        have HOK := Lib.hid hok
        clear hq hok
        go_wp2_with fail
        go_ret
        refine ⟨?_, hB2⟩
        rw [cfgErr, badAt_none HOK.out]
        rfl

end Go.Proofs.YtaecihljgbjmcaaDoor
