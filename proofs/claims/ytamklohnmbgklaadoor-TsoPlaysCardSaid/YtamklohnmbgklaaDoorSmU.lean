/- assentbook.Same at words. -/
import Derived.Test.YtamklohnmbgklaaDoorTs6
namespace Go.Proofs.YtamklohnmbgklaaDoor
open Go.RowKit Go.Extern.Stop Go.Stop Go.Extern

set_option maxRecDepth 100000 in
set_option maxHeartbeats 2000000 in
theorem sameU0_c (l : List Int) (v u : Value) (w : World) (hv : slc w 1 v l.length (u32V l)) (hu : slc w 1 u l.length (u32V l)) (hl : l.length ≤ 100000) :
    Calls Tryd.prog 15 #[v, u] w fun ev w' => ev = .returned (.bool true) ∧ Below w.heap.size w w' := by
  obtain ⟨_, a1, c1, rfl, hv⟩ := hv
  obtain ⟨_, a2, c2, rfl, hu⟩ := hu
  have HV := Lib.hid hv
  have HU := Lib.hid hu
  clear hv hu
  go_enter Tryd.func15, Tryd.ntmps15
  go_wp2_with fail
  go_loopw [5] (fun i wr => ∃ k : Nat, k ≤ l.length ∧ i = .int .i64 k ∧ Below w.heap.size w wr) (fun i _ => l.length - (intOf i).toNat)
  case atStart => exact ⟨0, by omega, rfl, Below.refl _ _⟩
  case round =>
    obtain ⟨k, hk, rfl, hB⟩ := hrel
    by_cases hkl : k < l.length
    · obtain ⟨g1, o1, rfl, hg1, hc1⟩ := HV.out (by omega)
      obtain ⟨g2, o2, rfl, hg2, hc2⟩ := HU.out (by omega)
      have e1 := (hB.cell (p := ⟨g1, o1 + k, none⟩) hg1).trans (hc1 k (.int .u32 l[k]) (by simp [u32V, hkl]))
      have e2 := (hB.cell (p := ⟨g2, o2 + k, none⟩) hg2).trans (hc2 k (.int .u32 l[k]) (by simp [u32V, hkl]))
      have b1 := World.block_lt_of_cell? _ _ e1
      have b2 := World.block_lt_of_cell? _ _ e2
      simp only at b1 b2
      have HB := Lib.hid hB
      generalize l[k] = x at e1 e2
      clear hc1 hc2 hg1 hg2 hB
      go_wp2_with fail
      refine wp_region_lexA ⟨[], []⟩ (fun x => Below wr.heap.size wr x) (by kernel_rfl) (by kernel_rfl) (Below.refl _ _).drew ?_
      intro S hto hof hne
      have x1 : ∀ z : Wd S, z.w.cell? ⟨g1, o1 + k, none⟩ = some (.int .u32 x) := fun z => ((hto z).cell (p := ⟨g1, o1 + k, none⟩) b1).trans e1
      have x2 : ∀ z : Wd S, z.w.cell? ⟨g2, o2 + k, none⟩ = some (.int .u32 x) := fun z => ((hto z).cell (p := ⟨g2, o2 + k, none⟩) b2).trans e2
      have Hof := Lib.hid hof
      clear hto hof e1 e2
      refine lexW_light 9 (by kernel_rfl) ?_
      simp only [List.take_succ_cons, List.take_zero, List.drop_succ_cons, List.drop_zero]
      repeat (first | go_big_quiet_skip | (go_big_quiet_want; go_big_quiet_op; go_big_quiet_on))
      refine wpQuiet_nil ?_
      refine lexW_done ?_
      go_wp2_with fail
      go_roundw
      case rel => exact ⟨k + 1, by omega, by go_num, HB.out.drew⟩
      case measure => simp [intOf]; omega
    · have hk' : k = l.length := by omega
      subst hk'
      go_wp2_with fail
      go_ret
      exact ⟨rfl, hB⟩


set_option maxRecDepth 100000 in
set_option maxHeartbeats 2000000 in
theorem sameU_c (l r : List Int) (v u : Value) (w : World) (hv : slc w 1 v l.length (u32V l)) (hu : slc w 1 u r.length (u32V r)) (hl : l.length ≤ 100000) (hr : r.length ≤ 100000) :
    Calls Tryd.prog 15 #[v, u] w fun ev w' => ev = .returned (.bool (decide (l = r))) ∧ Below w.heap.size w w' := by
  by_cases hlr : l = r
  · subst hlr
    rw [decide_eq_true rfl]
    exact sameU0_c l v u w hv hu hl
  · rw [decide_eq_false hlr]
    obtain ⟨_, a1, c1, rfl, hv⟩ := hv
    obtain ⟨_, a2, c2, rfl, hu⟩ := hu
    have HV := Lib.hid hv
    have HU := Lib.hid hu
    have HLR := Lib.hid hlr
    clear hv hu hlr
    by_cases hlen : l.length = r.length
    · have HLEN := Lib.hid hlen
      have hb : ((l.length : Int) != (r.length : Int)) = false := by simp [hlen]
      clear hlen
      go_enter Tryd.func15, Tryd.ntmps15
      go_wp2_with fail
      go_loopw [5] (fun i wr => ∃ k : Nat, k ≤ l.length ∧ i = .int .i64 k ∧ (∀ j, j < k → l[j]? = r[j]?) ∧ Below w.heap.size w wr) (fun i _ => l.length - (intOf i).toNat)
      case atStart => exact ⟨0, by omega, rfl, fun j hj => by omega, Below.refl _ _⟩
      case round =>
        obtain ⟨k, hk, rfl, hall, hB⟩ := hrel
        have HALL := Lib.hid hall
        clear hall
        by_cases hkl : k < l.length
        · have hkr : k < r.length := by have := HLEN.out; omega
          obtain ⟨g1, o1, rfl, hg1, hc1⟩ := HV.out (by omega)
          obtain ⟨g2, o2, rfl, hg2, hc2⟩ := HU.out (by omega)
          have e1 := (hB.cell (p := ⟨g1, o1 + k, none⟩) hg1).trans (hc1 k (.int .u32 l[k]) (by simp [u32V, hkl]))
          have e2 := (hB.cell (p := ⟨g2, o2 + k, none⟩) hg2).trans (hc2 k (.int .u32 r[k]) (by simp [u32V, hkr]))
          have b1 := World.block_lt_of_cell? _ _ e1
          have b2 := World.block_lt_of_cell? _ _ e2
          simp only at b1 b2
          have HB := Lib.hid hB
          have HKL := Lib.hid (List.getElem?_eq_getElem hkl)
          have HKR := Lib.hid (List.getElem?_eq_getElem hkr)
          generalize l[k] = x at *
          generalize r[k] = y at *
          clear hc1 hc2 hg1 hg2 hB
          by_cases hxy : x = y
          · have hg : (x != y) = false := by simp [hxy]
            have HXY := Lib.hid hxy
            clear hxy
            go_wp2_with fail
            refine wp_region_lexA ⟨[], []⟩ (fun x => Below wr.heap.size wr x) (by kernel_rfl) (by kernel_rfl) (Below.refl _ _).drew ?_
            intro S hto hof hne
            have x1 : ∀ z : Wd S, z.w.cell? ⟨g1, o1 + k, none⟩ = some (.int .u32 x) := fun z => ((hto z).cell (p := ⟨g1, o1 + k, none⟩) b1).trans e1
            have x2 : ∀ z : Wd S, z.w.cell? ⟨g2, o2 + k, none⟩ = some (.int .u32 y) := fun z => ((hto z).cell (p := ⟨g2, o2 + k, none⟩) b2).trans e2
            have Hof := Lib.hid hof
            clear hto hof e1 e2
            refine lexW_light 9 (by kernel_rfl) ?_
            simp only [List.take_succ_cons, List.take_zero, List.drop_succ_cons, List.drop_zero]
            repeat (first | go_big_quiet_skip | (go_big_quiet_want; go_big_quiet_op; go_big_quiet_on))
            refine wpQuiet_nil ?_
            refine lexW_done ?_
            go_wp2_with fail
            go_roundw
            case rel =>
              refine ⟨k + 1, by omega, by go_num, fun j hj => ?_, HB.out.drew⟩
              rcases Nat.lt_succ_iff_lt_or_eq.1 hj with h | rfl
              · exact HALL.out j h
              · rw [HKL.out, HKR.out, HXY.out]
            case measure => simp [intOf]; omega
          · have hg : (x != y) = true := by simpa using fun h : x = y => hxy h
            clear hxy
            go_wp2_with fail
            refine wp_region_lexA ⟨[], []⟩ (fun x => Below wr.heap.size wr x) (by kernel_rfl) (by kernel_rfl) (Below.refl _ _).drew ?_
            intro S hto hof hne
            have x1 : ∀ z : Wd S, z.w.cell? ⟨g1, o1 + k, none⟩ = some (.int .u32 x) := fun z => ((hto z).cell (p := ⟨g1, o1 + k, none⟩) b1).trans e1
            have x2 : ∀ z : Wd S, z.w.cell? ⟨g2, o2 + k, none⟩ = some (.int .u32 y) := fun z => ((hto z).cell (p := ⟨g2, o2 + k, none⟩) b2).trans e2
            have Hof := Lib.hid hof
            clear hto hof e1 e2
            refine lexW_light 9 (by kernel_rfl) ?_
            simp only [List.take_succ_cons, List.take_zero, List.drop_succ_cons, List.drop_zero]
            repeat (first | go_big_quiet_skip | (go_big_quiet_want; go_big_quiet_op; go_big_quiet_on))
            refine wpQuiet_nil ?_
            refine lexW_done ?_
            go_wp2_with fail
            go_ret
            exact ⟨rfl, HB.out.drew⟩
        · exfalso
          refine HLR.out (List.ext_getElem? fun j => ?_)
          rcases Nat.lt_or_ge j k with h | h
          · exact HALL.out j h
          · rw [List.getElem?_eq_none (by omega), List.getElem?_eq_none (by have := HLEN.out; omega)]
    · have hb : ((l.length : Int) != (r.length : Int)) = true := by simpa using fun h : (l.length : Int) = r.length => hlen (by omega)
      clear hlen
      go_enter Tryd.func15, Tryd.ntmps15
      go_wp2_with fail
      go_ret
      exact ⟨rfl, Below.refl _ _⟩

end Go.Proofs.YtamklohnmbgklaaDoor
