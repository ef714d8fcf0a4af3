/- assentbook.Same at bytes: a row is the same as itself. -/
import Derived.Test.YtpljdbcifaeblaaDoorRd4
namespace Go.Proofs.YtpljdbcifaeblaaDoor
open Go.RowKit Go.Extern.Stop Go.Stop Go.Extern

set_option maxRecDepth 100000 in
set_option maxHeartbeats 2000000 in
theorem sameB_c (l : List Nat) (v u : Value) (w : World) (hv : slc w 1 v l.length (byteV l)) (hu : slc w 1 u l.length (byteV l)) (hl : l.length ≤ 140737488355320) :
    Calls Tryd.prog 17 #[v, u] w fun ev w' => ev = .returned (.bool true) ∧ Below w.heap.size w w' := by
  obtain ⟨_, a1, c1, rfl, hv⟩ := hv
  obtain ⟨_, a2, c2, rfl, hu⟩ := hu
  have HV := Lib.hid hv
  have HU := Lib.hid hu
  clear hv hu
  go_enter Tryd.func17, Tryd.ntmps17
  go_wp2_with fail
  go_loopw [5] (fun i wr => ∃ k : Nat, k ≤ l.length ∧ i = .int .i64 k ∧ Below w.heap.size w wr) (fun i _ => l.length - (intOf i).toNat)
  case atStart => exact ⟨0, by omega, rfl, Below.refl _ _⟩
  case round =>
    obtain ⟨k, hk, rfl, hB⟩ := hrel
    by_cases hkl : k < l.length
    · obtain ⟨g1, o1, rfl, hg1, hc1⟩ := HV.out (by omega)
      obtain ⟨g2, o2, rfl, hg2, hc2⟩ := HU.out (by omega)
      have e1 := (hB.cell (p := ⟨g1, o1 + k, none⟩) hg1).trans (hc1 k (.int .u8 (l[k] : Nat)) (by simp [byteV, hkl]))
      have e2 := (hB.cell (p := ⟨g2, o2 + k, none⟩) hg2).trans (hc2 k (.int .u8 (l[k] : Nat)) (by simp [byteV, hkl]))
      have b1 := World.block_lt_of_cell? _ _ e1
      have b2 := World.block_lt_of_cell? _ _ e2
      simp only at b1 b2
      have HB := Lib.hid hB
      generalize l[k] = x at e1 e2
      clear hc1 hc2 hg1 hg2 hB
      go_wp2_with fail
      refine wp_region_lexA ⟨[], []⟩ (fun x => Below wr.heap.size wr x) (by kernel_rfl) (by kernel_rfl) (Below.refl _ _).drew ?_
      intro S hto hof hne
      have x1 : ∀ z : Wd S, z.w.cell? ⟨g1, o1 + k, none⟩ = some (.int .u8 (x : Nat)) := fun z => ((hto z).cell (p := ⟨g1, o1 + k, none⟩) b1).trans e1
      have x2 : ∀ z : Wd S, z.w.cell? ⟨g2, o2 + k, none⟩ = some (.int .u8 (x : Nat)) := fun z => ((hto z).cell (p := ⟨g2, o2 + k, none⟩) b2).trans e2
      have Hof := Lib.hid hof
      clear hto hof e1 e2
      refine lexW_light 9 (by kernel_rfl) ?_
      simp only [List.take_succ_cons, List.take_zero, List.drop_succ_cons, List.drop_zero]
      repeat (first | go_big_quiet_skip | (go_big_quiet_want; go_big_quiet_op; go_big_quiet_on))
      refine wpQuiet_nil ?_
      refine lexW_done ?_
      go_wp2_with fail
      go_roundw
      case rel => exact ⟨k + 1, by omega, by go_num, HB.out.drew⟩
      case measure => simp [intOf]; omega
    · have hk' : k = l.length := by omega
      subst hk'
      go_wp2_with fail
      go_ret
      exact ⟨rfl, hB⟩


end Go.Proofs.YtpljdbcifaeblaaDoor
