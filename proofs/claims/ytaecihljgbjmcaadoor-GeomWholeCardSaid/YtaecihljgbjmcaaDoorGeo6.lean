/- assentkeep.Config: a configuration that may be, made of any. -/
import Derived.Test.YtaecihljgbjmcaaDoorGeo2
import Derived.Test.YtaecihljgbjmcaaDoorBk
import Derived.Test.YtaecihljgbjmcaaDoorMem
import Derived.Test.YtaecihljgbjmcaaDoorLGeo3
namespace Go.Proofs.YtaecihljgbjmcaaDoor
open Go.RowKit

def keepG (g : Nat → Int) : Nat → Int
  | 0 => wiF (g 0) 1 4
  | 1 => wiF (g 1) 1 6
  | 2 => 1 + wiF (g 2) 0 1
  | 3 => 1 + wiF (g 3) 0 1
  | 4 => wiF (g 4) 1 3
  | 5 => wiF (g 5) 1 3
  | 6 => wiF (g 6) 1 4
  | 7 => 2
  | _ => wiF (g 8) (-1) 1
structure KeepB (h : Nat → Int) : Prop where
  b0 : 1 ≤ h 0 ∧ h 0 ≤ 4
  b1 : 1 ≤ h 1 ∧ h 1 ≤ 6
  b2 : h 2 = 1 ∨ h 2 = 2
  b3 : h 3 = 1 ∨ h 3 = 2
  b4 : 1 ≤ h 4 ∧ h 4 ≤ 3
  b5 : 1 ≤ h 5 ∧ h 5 ≤ 3
  b6 : 1 ≤ h 6 ∧ h 6 ≤ 4
  b7 : h 7 = 2
  b8 : -1 ≤ h 8 ∧ h 8 ≤ 1
theorem keepG_b (g : Nat → Int) : KeepB (keepG g) where
  b0 := wiF_b (by omega)
  b1 := wiF_b (by omega)
  b2 := by have := wiF_b (n := g 2) (lo := 0) (hi := 1) (by omega); simp only [keepG]; omega
  b3 := by have := wiF_b (n := g 3) (lo := 0) (hi := 1) (by omega); simp only [keepG]; omega
  b4 := wiF_b (by omega)
  b5 := wiF_b (by omega)
  b6 := wiF_b (by omega)
  b7 := rfl
  b8 := wiF_b (by omega)
theorem nSizeCfg : (Tryd.prog.info? 42).map (·.size) = some 9 := by kernel_rfl
theorem stored9 {Z W : World} {b B : Nat} {Zs : Array Value} {a0 a1 a2 a3 a4 a5 a6 a7 a8 : Value} {K : World → Prop} (hZ : Z.heap[b]? = some (.cells Zs 42 (0, 0))) (hB : Below B W Z) (hb : B ≤ b) (hz : Zs.size = 9) :
    ∃ X : World, X.heap[b]? = some (.cells #[a0, a1, a2, a3, a4, a5, a6, a7, a8] 42 (0, 0)) ∧ Below B W X ∧ (K X → K (Z.setCells b 0 (#[a0, a1, a2, a3, a4, a5, a6, a7, a8] : Array Value).toList)) := by
  refine ⟨Z.setCells b 0 [a0, a1, a2, a3, a4, a5, a6, a7, a8], ?_, below_setCells hb _ 0 W Z hB, id⟩
  rw [heap_setCells_at _ 0 Z _ hZ]
  obtain ⟨l⟩ := Zs
  match l, hz with
  | [c0, c1, c2, c3, c4, c5, c6, c7, c8], _ => simp [putAt]
theorem shl1 {x : Int} (h : 0 ≤ x ∧ x ≤ 1) : x = 0 ∨ x = 1 := by omega

set_option maxRecDepth 100000 in
set_option maxHeartbeats 4000000 in
theorem kconfig (g : Nat → Int) (w : World) (hb : ∀ j, j < 9 → -9223372036854775808 ≤ g j ∧ g j ≤ 9223372036854775807) :
    Calls Tryd.prog 30 #[cfgV g] w fun e w' => e = .returned (cfgV (keepG g)) ∧ Below w.heap.size w w' := by
  have hc : ∀ k v, (#[.int .i64 (g 0), .int .i64 (g 1), .int .i64 (g 2), .int .i64 (g 3), .int .i64 (g 4), .int .i64 (g 5), .int .i64 (g 6), .int .i64 (g 7), .int .i64 (g 8)] : Array Value)[k]? = some v → (w.alloc (cfgO g)).cell? ⟨w.heap.size, k, none⟩ = some v := fun k v h => by
    rw [cfgO, World.cell?_alloc_new]
    exact h
  have hs1 : Below w.heap.size w (w.alloc (cfgO g)) := (Below.refl _ _).alloc (Nat.le_refl _) _
  have hz : (w.alloc (cfgO g)).heap.size = w.heap.size + 1 := by simp
  have HBD := Lib.hid hb
  have h2 : wiF (g 2) 0 1 = 0 ∨ wiF (g 2) 0 1 = 1 := shl1 (wiF_b (by omega))
  have h3 : wiF (g 3) 0 1 = 0 ∨ wiF (g 3) 0 1 = 1 := shl1 (wiF_b (by omega))
  have hres : ∀ x y, wiF (g 2) 0 1 = x → wiF (g 3) 0 1 = y → cfgV (keepG g) = .agg #[.int .i64 (wiF (g 0) 1 4), .int .i64 (wiF (g 1) 1 6), .int .i64 (1 + x), .int .i64 (1 + y), .int .i64 (wiF (g 4) 1 3), .int .i64 (wiF (g 5) 1 3), .int .i64 (wiF (g 6) 1 4), .int .i64 2, .int .i64 (wiF (g 8) (-1) 1)] := fun x y hx hy => by
    rw [← hx, ← hy]
    rfl
  clear hb
  simp only [cfgV] at hres ⊢
  unfold cfgO at hc hs1 hz
  generalize hx2 : wiF (g 2) 0 1 = x2 at *
  generalize hx3 : wiF (g 3) 0 1 = x3 at *
  have HX2 := Lib.hid hx2
  have HX3 := Lib.hid hx3
  have HRES := Lib.hid (hres _ _ rfl rfl)
  clear hx2 hx3 hres
  rcases h2 with rfl | rfl <;> rcases h3 with rfl | rfl
  all_goals
    go_enter Tryd.func30, Tryd.ntmps30
    go_wp2_with fail
    generalize w.alloc (.cells #[.int .i64 (g 0), .int .i64 (g 1), .int .i64 (g 2), .int .i64 (g 3), .int .i64 (g 4), .int .i64 (g 5), .int .i64 (g 6), .int .i64 (g 7), .int .i64 (g 8)] 42) = W at hc hs1 hz ⊢
    have HZ := Lib.hid hz
    have HB := Lib.hid hs1
    have hlt : w.heap.size < W.heap.size := by omega
    refine wp_region_lexA ⟨[19], []⟩ (fun x => Below W.heap.size W x) (by kernel_rfl) (by kernel_rfl) ((Below.refl _ _).alloc (Nat.le_refl _) _).drew ?_
    intro S hto hof hne
    have hx : ∀ (k : Nat) (v : Value), (#[.int .i64 (g 0), .int .i64 (g 1), .int .i64 (g 2), .int .i64 (g 3), .int .i64 (g 4), .int .i64 (g 5), .int .i64 (g 6), .int .i64 (g 7), .int .i64 (g 8)] : Array Value)[k]? = some v → ∀ x : Wd S, x.w.cell? ⟨w.heap.size, k, none⟩ = some v := fun k v h x => ((hto x).cell (p := ⟨w.heap.size, k, none⟩) hlt).trans (hc k v h)
    have hx0 := hx 0 _ rfl
    have hx1 := hx 1 _ rfl
    have hx2 := hx 2 _ rfl
    have hx3 := hx 3 _ rfl
    have hx4 := hx 4 _ rfl
    have hx5 := hx 5 _ rfl
    have hx6 := hx 6 _ rfl
    have hx8 := hx 8 _ rfl
    have Hof := Lib.hid hof
    clear hto hof hx hc hz hs1 hlt
    refine lexW_light 2 (by kernel_rfl) ?_
    simp only [List.take_succ_cons, List.take_zero, List.drop_succ_cons, List.drop_zero]
    repeat (first | go_big_quiet_skip | (go_big_quiet_want; go_big_quiet_op; go_big_quiet_on))
    refine wpQuiet_nil ?_
    refine lexW_pure (by kernel_rfl) (by rfl) rfl Tryd.func19 rfl (by kernel_rfl) (fun x => Within_b (g 0) 1 4 x.w (by omega) (by omega) (by omega) (HBD.out 0 (by omega)).1 (HBD.out 0 (by omega)).2) (by go_simp) ?_
    simp only [Act.put, List.setIfInBounds_toArray, List.set_cons_zero, List.set_cons_succ]
    refine lexW_light 2 (by kernel_rfl) ?_
    simp only [List.take_succ_cons, List.take_zero, List.drop_succ_cons, List.drop_zero]
    repeat (first | go_big_quiet_skip | (go_big_quiet_want; go_big_quiet_op; go_big_quiet_on))
    refine wpQuiet_nil ?_
    refine lexW_pure (by kernel_rfl) (by rfl) rfl Tryd.func19 rfl (by kernel_rfl) (fun x => Within_b (g 1) 1 6 x.w (by omega) (by omega) (by omega) (HBD.out 1 (by omega)).1 (HBD.out 1 (by omega)).2) (by go_simp) ?_
    simp only [Act.put, List.setIfInBounds_toArray, List.set_cons_zero, List.set_cons_succ]
    refine lexW_light 2 (by kernel_rfl) ?_
    simp only [List.take_succ_cons, List.take_zero, List.drop_succ_cons, List.drop_zero]
    repeat (first | go_big_quiet_skip | (go_big_quiet_want; go_big_quiet_op; go_big_quiet_on))
    refine wpQuiet_nil ?_
    refine lexW_pure (by kernel_rfl) (by rfl) rfl Tryd.func19 rfl (by kernel_rfl) (fun x => Within_b (g 2) 0 1 x.w (by omega) (by omega) (by omega) (HBD.out 2 (by omega)).1 (HBD.out 2 (by omega)).2) (by go_simp) ?_
    simp only [Act.put, List.setIfInBounds_toArray, List.set_cons_zero, List.set_cons_succ]
    rw [HX2.out]
    refine lexW_light 3 (by kernel_rfl) ?_
    simp only [List.take_succ_cons, List.take_zero, List.drop_succ_cons, List.drop_zero]
    repeat (first | go_big_quiet_skip | (go_big_quiet_want; go_big_quiet_op; go_big_quiet_on))
    refine wpQuiet_nil ?_
    refine lexW_pure (by kernel_rfl) (by rfl) rfl Tryd.func19 rfl (by kernel_rfl) (fun x => Within_b (g 3) 0 1 x.w (by omega) (by omega) (by omega) (HBD.out 3 (by omega)).1 (HBD.out 3 (by omega)).2) (by go_simp) ?_
    simp only [Act.put, List.setIfInBounds_toArray, List.set_cons_zero, List.set_cons_succ]
    rw [HX3.out]
    refine lexW_light 3 (by kernel_rfl) ?_
    simp only [List.take_succ_cons, List.take_zero, List.drop_succ_cons, List.drop_zero]
    repeat (first | go_big_quiet_skip | (go_big_quiet_want; go_big_quiet_op; go_big_quiet_on))
    refine wpQuiet_nil ?_
    refine lexW_pure (by kernel_rfl) (by rfl) rfl Tryd.func19 rfl (by kernel_rfl) (fun x => Within_b (g 4) 1 3 x.w (by omega) (by omega) (by omega) (HBD.out 4 (by omega)).1 (HBD.out 4 (by omega)).2) (by go_simp) ?_
    simp only [Act.put, List.setIfInBounds_toArray, List.set_cons_zero, List.set_cons_succ]
    refine lexW_light 2 (by kernel_rfl) ?_
    simp only [List.take_succ_cons, List.take_zero, List.drop_succ_cons, List.drop_zero]
    repeat (first | go_big_quiet_skip | (go_big_quiet_want; go_big_quiet_op; go_big_quiet_on))
    refine wpQuiet_nil ?_
    refine lexW_pure (by kernel_rfl) (by rfl) rfl Tryd.func19 rfl (by kernel_rfl) (fun x => Within_b (g 5) 1 3 x.w (by omega) (by omega) (by omega) (HBD.out 5 (by omega)).1 (HBD.out 5 (by omega)).2) (by go_simp) ?_
    simp only [Act.put, List.setIfInBounds_toArray, List.set_cons_zero, List.set_cons_succ]
    refine lexW_light 2 (by kernel_rfl) ?_
    simp only [List.take_succ_cons, List.take_zero, List.drop_succ_cons, List.drop_zero]
    repeat (first | go_big_quiet_skip | (go_big_quiet_want; go_big_quiet_op; go_big_quiet_on))
    refine wpQuiet_nil ?_
    refine lexW_pure (by kernel_rfl) (by rfl) rfl Tryd.func19 rfl (by kernel_rfl) (fun x => Within_b (g 6) 1 4 x.w (by omega) (by omega) (by omega) (HBD.out 6 (by omega)).1 (HBD.out 6 (by omega)).2) (by go_simp) ?_
    simp only [Act.put, List.setIfInBounds_toArray, List.set_cons_zero, List.set_cons_succ]
    refine lexW_light 2 (by kernel_rfl) ?_
    simp only [List.take_succ_cons, List.take_zero, List.drop_succ_cons, List.drop_zero]
    repeat (first | go_big_quiet_skip | (go_big_quiet_want; go_big_quiet_op; go_big_quiet_on))
    refine wpQuiet_nil ?_
    refine lexW_pure (by kernel_rfl) (by rfl) rfl Tryd.func19 rfl (by kernel_rfl) (fun x => Within_b (g 8) (-1) 1 x.w (by omega) (by omega) (by omega) (HBD.out 8 (by omega)).1 (HBD.out 8 (by omega)).2) (by go_simp) ?_
    simp only [Act.put, List.setIfInBounds_toArray, List.set_cons_zero, List.set_cons_succ]
    refine lexW_light 1 (by kernel_rfl) ?_
    simp only [List.take_succ_cons, List.take_zero, List.drop_succ_cons, List.drop_zero]
    repeat (first | go_big_quiet_skip | (go_big_quiet_want; go_big_quiet_op; go_big_quiet_on))
    refine wpQuiet_nil ?_
    clear hx0 hx1 hx2 hx3 hx4 hx5 hx6 hx8
    have hZ : (W.alloc (.cells #[.int .i64 0, .int .i64 0, .int .i64 0, .int .i64 0, .int .i64 0, .int .i64 0, .int .i64 0, .int .i64 0, .int .i64 0] 42)).drew.heap[W.heap.size]? = some (.cells #[.int .i64 0, .int .i64 0, .int .i64 0, .int .i64 0, .int .i64 0, .int .i64 0, .int .i64 0, .int .i64 0, .int .i64 0] 42) := heap_alloc_at W _
    have hBZ : Below W.heap.size W (W.alloc (.cells #[.int .i64 0, .int .i64 0, .int .i64 0, .int .i64 0, .int .i64 0, .int .i64 0, .int .i64 0, .int .i64 0, .int .i64 0] 42)).drew := ((Below.refl _ _).alloc (Nat.le_refl _) _).drew
    generalize (W.alloc (.cells #[.int .i64 0, .int .i64 0, .int .i64 0, .int .i64 0, .int .i64 0, .int .i64 0, .int .i64 0, .int .i64 0, .int .i64 0] 42)).drew = Z at hZ hBZ ⊢
    rw [HZ.out] at hZ
    refine lexW_heavy (by kernel_rfl) ?_
    refine wpList_store_mid (P := Tryd.prog) rfl 42 (.tmp 2) (.tmp 29) rfl (w.heap.size + 1) 0 _ rfl rfl (there_of_rowN hZ rfl) nSizeCfg (by simp [Value.oneCell']) ?_
    obtain ⟨X, hX, hBX, hgen⟩ := stored9 (K := fun W' => wpList Tryd.prog _ _ _ _ W') hZ hBZ (Nat.le_of_eq HZ.out) rfl
    refine hgen ?_
    clear hgen hZ hBZ
    go_wp2_with fail
    refine lexQ_done (Hof.out _ hBX) ?_
    go_wp2_with fail
    have x0 := cell_of hX 0
    have x1 := cell_of hX 1
    have x2 := cell_of hX 2
    have x3 := cell_of hX 3
    have x4 := cell_of hX 4
    have x5 := cell_of hX 5
    have x6 := cell_of hX 6
    have x7 := cell_of hX 7
    have x8 := cell_of hX 8
    simp only [List.getElem?_toArray, List.getElem?_cons_zero, List.getElem?_cons_succ] at x0 x1 x2 x3 x4 x5 x6 x7 x8
    refine bodyPost_ret_by (v := .agg #[_, _, _, _, _, _, _, _, _]) (by simp [results, Tryd.results30, x0, x1, x2, x3, x4, x5, x6, x7, x8, go_sem]; exact ⟨rfl, rfl, rfl, rfl, rfl, rfl, rfl, rfl, rfl⟩) rfl ?_
    refine ⟨?_, HB.out.trans (hBX.mono (by have := HZ.out; omega))⟩
    rw [HRES.out]
    rfl

end Go.Proofs.YtaecihljgbjmcaaDoor
