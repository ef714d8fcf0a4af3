/- TsoRuns: true; no condition but what a start gives. -/
import Derived.Test.YtamklohnmbgklaaDoorTs9
import Derived.Test.YtamklohnmbgklaaDoorSmU
import Derived.Test.YtamklohnmbgklaaDoorFop
import Derived.Great.BuildSlice
namespace Go.Proofs.YtamklohnmbgklaaDoor
open Go.RowKit Go.Extern.Stop Go.Stop Go.Extern

def runL : List Ev := [⟨2, 0, 0, 1, 0, false⟩, ⟨2, 1, 1, 1, 0, false⟩, ⟨1, 0, 1, 0, 0, false⟩, ⟨1, 1, 0, 0, 0, false⟩]
theorem runs_ok : rplE (List.replicate 2 []) (List.replicate 2 0) runL 0 = .nil ∧ runM (List.replicate 2 []) (List.replicate 2 0) runL = [0, 0] := by
  constructor
  · kernel_rfl
  · kernel_rfl
theorem runs_1 : rplE (List.replicate 2 []) (List.replicate 2 0) (runL ++ [⟨1, 0, 0, 0, 0, false⟩]) 0 = .wrap trT 4 (.wrap tsT 0 (.sent 9)) := by kernel_rfl
theorem runs_2 : rplE (List.replicate 2 []) (List.replicate 2 0) (runL ++ [⟨3, 1, 0, 1, 0, false⟩]) 0 = .wrap trT 4 (.wrap tsT 1 (.sent 9)) := by kernel_rfl
theorem runs_3 : rplE (List.replicate 2 []) (List.replicate 2 0) (runL ++ [⟨4, 0, 0, 0, 0, false⟩]) 0 = .wrap trT 4 (.wrap tsT 0 (.sent 8)) := by kernel_rfl

set_option maxRecDepth 100000 in
set_option maxHeartbeats 8000000 in
theorem tsoRuns (A : Nat → Addr) (w : World) (hs : SentAt w A) : Calls Tryd.prog 3 #[] w (TruePost w) := by
  obtain ⟨i0, hi0, hi1⟩ := Option.map_eq_some_iff.1 nInfoE
  simp only [Prod.mk.injEq] at hi1
  obtain ⟨hz0, hz1, hz2⟩ := hi1
  have HI := Lib.hid hi0
  have HZ0 := Lib.hid hz0
  have HZ1 := Lib.hid hz1
  have HZ2 := Lib.hid hz2
  clear hi0 hz0 hz1 hz2
  have HS := Lib.hid hs
  clear hs
  go_enter Tryd.func3, Tryd.ntmps3
  go_wp2_with fail
  refine (ev_c 2 0 0 1 w).mono ?_
  rintro ev w1 ⟨rfl, hb1⟩
  have HB1 := Lib.hid hb1
  clear hb1
  simp only [Ev.v]
  go_wp2_with fail
  refine (ev_c 2 1 1 1 w1).mono ?_
  rintro ev w2 ⟨rfl, hb2⟩
  have HB2 := Lib.hid (HB1.out.trans (hb2.mono HB1.out.size))
  clear hb2
  simp only [Ev.v]
  go_wp2_with fail
  refine (ev_c 1 0 1 0 w2).mono ?_
  rintro ev w3 ⟨rfl, hb3⟩
  have HB3 := Lib.hid (HB2.out.trans (hb3.mono HB2.out.size))
  clear hb3
  simp only [Ev.v]
  go_wp2_with fail
  refine (ev_c 1 1 0 0 w3).mono ?_
  rintro ev w4 ⟨rfl, hb4⟩
  have HB4 := Lib.hid (HB3.out.trans (hb4.mono HB3.out.size))
  clear hb4 HB1 HB2 HB3
  simp only [Ev.v]
  go_wp2_with fail
  have hsl0 : slc (w4.alloc (.cells (flatE runL).toArray 24)) 6 (.slice (some ⟨w4.heap.size, 0, none⟩) 4 4) 4 (flatE runL) := slc_built w4 _ 6 4 (flatE runL) rfl
  have hba : Below w4.heap.size w4 (w4.alloc (.cells (flatE runL).toArray 24)) := (Below.refl _ _).alloc (Nat.le_refl _) _
  have HBA := Lib.hid (HB4.out.trans (hba.mono HB4.out.size))
  have HSL0 := Lib.hid hsl0
  clear hba hsl0
  refine (replay_c A 2 2 _ runL (w4.alloc (.cells (flatE runL).toArray 24)) (HS.out.below HBA.out) (by omega) (by omega) (by omega) (by omega) HSL0.out (by decide)).mono ?_
  rintro ev w5 ⟨u5, rfl, hu, hb⟩
  rw [runs_ok.1, runs_ok.2] at hu
  rw [runs_ok.1]
  have hu : winRow w5 (w4.alloc (.cells (flatE runL).toArray 24)).heap.size 22 1 u5 2 (u32V [0, 0]) := hu
  have HU5 := Lib.hid hu.slc
  obtain ⟨a5, c5, rfl⟩ := hu.len
  have HL5 := Lib.hid (HSL0.out.below hb)
  have HW5 := Lib.hid (HBA.out.trans (hb.mono HBA.out.size))
  clear hu hb HSL0 HBA
  rw [show ErrT.nil.val A = .nilIface from rfl]
  go_wp2_with (at_builtin; refine wpList_append_slc _ rfl _ _ 26 rfl w5.heap.size 24 i0 _ 6 40 Tryd.underlying26 HI.out HZ0.out HZ1.out HZ2.out rfl (by decide) _ _ _ rfl (winRow_fresh w5 24 6) _ 4 (flatE runL) rfl (HL5.out.below ((Below.refl _ _).alloc (Nat.le_refl _) _)) (flatE_one _) (by unfold maxLen; omega) (by omega) (by simp) ?_; intro p6 x6 hown hgrow hat)
  have hown : winRow x6 w5.heap.size 24 6 p6 4 (flatE runL) := by simpa using hown
  have hx : Below w5.heap.size w5 x6 := ((Below.refl _ _).alloc (Nat.le_refl _) _).grown hgrow (by simp) (by intro k hk; have hk : some w5.heap.size = some k := hk; exact Nat.le_of_eq (Option.some.inj hk))
  have HX6 := Lib.hid hx
  have HO6 := Lib.hid hown
  obtain ⟨ax6, cx6, rfl⟩ := hown.len
  clear hown hgrow hat hx
  refine (ev_c 1 0 0 0 x6).mono ?_
  rintro ev y6 ⟨rfl, hy⟩
  have HY6 := Lib.hid (HX6.out.trans (hy.mono HX6.out.size))
  have HO6b := Lib.hid (HO6.out.below hy)
  clear hy
  simp only [Ev.v]
  go_wp2_with (at_builtin; refine wpList_append_slc _ rfl _ _ 26 rfl w5.heap.size 24 i0 _ 6 40 Tryd.underlying26 HI.out HZ0.out HZ1.out HZ2.out rfl (by decide) _ _ _ rfl (HO6b.out.below ((Below.refl _ _).alloc (Nat.le_refl _) _)) _ 1 (flatE [(⟨1, 0, 0, 0, 0, false⟩ : Ev)]) rfl (slc_built y6 _ 6 1 (flatE [(⟨1, 0, 0, 0, 0, false⟩ : Ev)]) rfl) (flatE_one _) (by unfold maxLen; omega) (by omega) (by have := HY6.out.size; simp; omega) ?_; intro p6 x6 hown hgrow hat)
  have hz : Below w5.heap.size w5 x6 := (HY6.out.alloc HY6.out.size _).grown hgrow (by have := HY6.out.size; simp; omega) fun q hq => (HO6b.out.lt q hq).1
  have HZW6 := Lib.hid hz
  have hsl : slc x6 6 p6 (runL ++ [(⟨1, 0, 0, 0, 0, false⟩ : Ev)]).length (flatE (runL ++ [(⟨1, 0, 0, 0, 0, false⟩ : Ev)])) := by
    rw [flatE_append]
    exact hown.slc
  have HSL6 := Lib.hid hsl
  obtain ⟨bx6, dx6, rfl⟩ := hown.len
  clear hown hgrow hat hz hsl
  refine (replay_c A 2 2 _ (runL ++ [(⟨1, 0, 0, 0, 0, false⟩ : Ev)]) x6 (HS.out.below (HW5.out.trans (HZW6.out.mono HW5.out.size))) (by omega) (by omega) (by omega) (by omega) HSL6.out (by simp [runL])).mono ?_
  rintro ev w6 ⟨u6, rfl, hu, hb⟩
  rw [runs_1] at hu ⊢
  have hu : u6 = .slice none 0 0 := hu
  subst hu
  have HC6 := Lib.hid (HZW6.out.trans (hb.mono HZW6.out.size))
  have HW6 := Lib.hid (HW5.out.trans (HC6.out.mono HW5.out.size))
  have HL6 := Lib.hid (HL5.out.below HC6.out)
  clear hb
  rw [show (ErrT.wrap trT 4 (.wrap tsT 0 (.sent 9))).val A = .iface 78 (.agg #[.string trT, .int .i64 4, .iface 78 (.agg #[.string tsT, .int .i64 0, .iface 129 (.pointer (some (A 9)))])]) from rfl]
  go_wp2_with (at_builtin; refine wpList_append_slc _ rfl _ _ 26 rfl w6.heap.size 24 i0 _ 6 40 Tryd.underlying26 HI.out HZ0.out HZ1.out HZ2.out rfl (by decide) _ _ _ rfl (winRow_fresh w6 24 6) _ 4 (flatE runL) rfl (HL6.out.below ((Below.refl _ _).alloc (Nat.le_refl _) _)) (flatE_one _) (by unfold maxLen; omega) (by omega) (by simp) ?_; intro p7 x7 hown hgrow hat)
  have hown : winRow x7 w6.heap.size 24 6 p7 4 (flatE runL) := by simpa using hown
  have hx : Below w6.heap.size w6 x7 := ((Below.refl _ _).alloc (Nat.le_refl _) _).grown hgrow (by simp) (by intro k hk; have hk : some w6.heap.size = some k := hk; exact Nat.le_of_eq (Option.some.inj hk))
  have HX7 := Lib.hid hx
  have HO7 := Lib.hid hown
  obtain ⟨ax7, cx7, rfl⟩ := hown.len
  clear hown hgrow hat hx
  refine (ev_c 3 1 0 1 x7).mono ?_
  rintro ev y7 ⟨rfl, hy⟩
  have HY7 := Lib.hid (HX7.out.trans (hy.mono HX7.out.size))
  have HO7b := Lib.hid (HO7.out.below hy)
  clear hy
  simp only [Ev.v]
  go_wp2_with (at_builtin; refine wpList_append_slc _ rfl _ _ 26 rfl w6.heap.size 24 i0 _ 6 40 Tryd.underlying26 HI.out HZ0.out HZ1.out HZ2.out rfl (by decide) _ _ _ rfl (HO7b.out.below ((Below.refl _ _).alloc (Nat.le_refl _) _)) _ 1 (flatE [(⟨3, 1, 0, 1, 0, false⟩ : Ev)]) rfl (slc_built y7 _ 6 1 (flatE [(⟨3, 1, 0, 1, 0, false⟩ : Ev)]) rfl) (flatE_one _) (by unfold maxLen; omega) (by omega) (by have := HY7.out.size; simp; omega) ?_; intro p7 x7 hown hgrow hat)
  have hz : Below w6.heap.size w6 x7 := (HY7.out.alloc HY7.out.size _).grown hgrow (by have := HY7.out.size; simp; omega) fun q hq => (HO7b.out.lt q hq).1
  have HZW7 := Lib.hid hz
  have hsl : slc x7 6 p7 (runL ++ [(⟨3, 1, 0, 1, 0, false⟩ : Ev)]).length (flatE (runL ++ [(⟨3, 1, 0, 1, 0, false⟩ : Ev)])) := by
    rw [flatE_append]
    exact hown.slc
  have HSL7 := Lib.hid hsl
  obtain ⟨bx7, dx7, rfl⟩ := hown.len
  clear hown hgrow hat hz hsl
  refine (replay_c A 2 2 _ (runL ++ [(⟨3, 1, 0, 1, 0, false⟩ : Ev)]) x7 (HS.out.below (HW6.out.trans (HZW7.out.mono HW6.out.size))) (by omega) (by omega) (by omega) (by omega) HSL7.out (by simp [runL])).mono ?_
  rintro ev w7 ⟨u7, rfl, hu, hb⟩
  rw [runs_2] at hu ⊢
  have hu : u7 = .slice none 0 0 := hu
  subst hu
  have HC7 := Lib.hid (HZW7.out.trans (hb.mono HZW7.out.size))
  have HW7 := Lib.hid (HW6.out.trans (HC7.out.mono HW6.out.size))
  have HL7 := Lib.hid (HL6.out.below HC7.out)
  clear hb
  rw [show (ErrT.wrap trT 4 (.wrap tsT 1 (.sent 9))).val A = .iface 78 (.agg #[.string trT, .int .i64 4, .iface 78 (.agg #[.string tsT, .int .i64 1, .iface 129 (.pointer (some (A 9)))])]) from rfl]
  go_wp2_with (at_builtin; refine wpList_append_slc _ rfl _ _ 26 rfl w7.heap.size 24 i0 _ 6 40 Tryd.underlying26 HI.out HZ0.out HZ1.out HZ2.out rfl (by decide) _ _ _ rfl (winRow_fresh w7 24 6) _ 4 (flatE runL) rfl (HL7.out.below ((Below.refl _ _).alloc (Nat.le_refl _) _)) (flatE_one _) (by unfold maxLen; omega) (by omega) (by simp) ?_; intro p8 x8 hown hgrow hat)
  have hown : winRow x8 w7.heap.size 24 6 p8 4 (flatE runL) := by simpa using hown
  have hx : Below w7.heap.size w7 x8 := ((Below.refl _ _).alloc (Nat.le_refl _) _).grown hgrow (by simp) (by intro k hk; have hk : some w7.heap.size = some k := hk; exact Nat.le_of_eq (Option.some.inj hk))
  have HX8 := Lib.hid hx
  have HO8 := Lib.hid hown
  obtain ⟨ax8, cx8, rfl⟩ := hown.len
  clear hown hgrow hat hx
  refine (ev_c 4 0 0 0 x8).mono ?_
  rintro ev y8 ⟨rfl, hy⟩
  have HY8 := Lib.hid (HX8.out.trans (hy.mono HX8.out.size))
  have HO8b := Lib.hid (HO8.out.below hy)
  clear hy
  simp only [Ev.v]
  go_wp2_with (at_builtin; refine wpList_append_slc _ rfl _ _ 26 rfl w7.heap.size 24 i0 _ 6 40 Tryd.underlying26 HI.out HZ0.out HZ1.out HZ2.out rfl (by decide) _ _ _ rfl (HO8b.out.below ((Below.refl _ _).alloc (Nat.le_refl _) _)) _ 1 (flatE [(⟨4, 0, 0, 0, 0, false⟩ : Ev)]) rfl (slc_built y8 _ 6 1 (flatE [(⟨4, 0, 0, 0, 0, false⟩ : Ev)]) rfl) (flatE_one _) (by unfold maxLen; omega) (by omega) (by have := HY8.out.size; simp; omega) ?_; intro p8 x8 hown hgrow hat)
  have hz : Below w7.heap.size w7 x8 := (HY8.out.alloc HY8.out.size _).grown hgrow (by have := HY8.out.size; simp; omega) fun q hq => (HO8b.out.lt q hq).1
  have HZW8 := Lib.hid hz
  have hsl : slc x8 6 p8 (runL ++ [(⟨4, 0, 0, 0, 0, false⟩ : Ev)]).length (flatE (runL ++ [(⟨4, 0, 0, 0, 0, false⟩ : Ev)])) := by
    rw [flatE_append]
    exact hown.slc
  have HSL8 := Lib.hid hsl
  obtain ⟨bx8, dx8, rfl⟩ := hown.len
  clear hown hgrow hat hz hsl
  refine (replay_c A 2 2 _ (runL ++ [(⟨4, 0, 0, 0, 0, false⟩ : Ev)]) x8 (HS.out.below (HW7.out.trans (HZW8.out.mono HW7.out.size))) (by omega) (by omega) (by omega) (by omega) HSL8.out (by simp [runL])).mono ?_
  rintro ev w8 ⟨u8, rfl, hu, hb⟩
  rw [runs_3] at hu ⊢
  have hu : u8 = .slice none 0 0 := hu
  subst hu
  have HC8 := Lib.hid (HZW8.out.trans (hb.mono HZW8.out.size))
  have HW8 := Lib.hid (HW7.out.trans (HC8.out.mono HW7.out.size))
  have HL8 := Lib.hid (HL7.out.below HC8.out)
  clear hb
  rw [show (ErrT.wrap trT 4 (.wrap tsT 0 (.sent 8))).val A = .iface 78 (.agg #[.string trT, .int .i64 4, .iface 78 (.agg #[.string tsT, .int .i64 0, .iface 129 (.pointer (some (A 8)))])]) from rfl]
  go_wp2_with fail
  refine (sameU_c [0, 0] [0, 0] _ _ _ (HU5.out.below (((HC6.out.trans (HC7.out.mono HC6.out.size)).trans (HC8.out.mono (HC6.out.trans (HC7.out.mono HC6.out.size)).size)).trans ((Below.refl _ _).alloc (Nat.le_refl _) _ |>.mono (by have := ((HC6.out.trans (HC7.out.mono HC6.out.size)).trans (HC8.out.mono (HC6.out.trans (HC7.out.mono HC6.out.size)).size)).size; omega)))) (slc_built w8 _ 1 2 (u32V [0, 0]) rfl) (by decide) (by decide)).mono ?_
  rintro ev w9 ⟨rfl, hb9⟩
  rw [decide_eq_true rfl]
  have HW9 := Lib.hid ((HW8.out.alloc HW8.out.size _).trans (hb9.mono (HW8.out.alloc HW8.out.size _).size))
  clear hb9
  go_wp2_with fail
  change Calls Tryd.prog _ #[(ErrT.wrap trT 4 (.wrap tsT 0 (.sent 9))).val A, .int .i64 (10 : Int), .string trT, .int .i64 4] _ _
  refine (is_c A (.wrap trT 4 (.wrap tsT 0 (.sent 9))) 10 trT 4 w9 (HS.out.below HW9.out) ⟨rfl, rfl, show (9 : Nat) < 10 by omega⟩ (by omega) (by omega)).mono ?_
  rintro ev w10 ⟨rfl, hb10⟩
  rw [show isK (.wrap trT 4 (.wrap tsT 0 (.sent 9))) 10 trT 4 = true by simp [isK, ErrT.code]]
  have HW10 := Lib.hid (HW9.out.trans (hb10.mono HW9.out.size))
  clear hb10
  go_wp2_with fail
  change Calls Tryd.prog _ #[(ErrT.wrap trT 4 (.wrap tsT 0 (.sent 9))).val A] _ _
  refine (ops_c A (.wrap trT 4 (.wrap tsT 0 (.sent 9))) w10 ⟨rfl, rfl, show (9 : Nat) < 10 by omega⟩ (by simp [ErrT.depth])).mono ?_
  rintro ev w11 ⟨v11, rfl, hv11, hb11⟩
  have HW11 := Lib.hid (HW10.out.trans (hb11.mono HW10.out.size))
  have HV11 := Lib.hid hv11
  obtain ⟨_, a11, c11, rfl, _⟩ := hv11
  clear hb11
  go_wp2_with fail
  refine (sameS_c [trT, tsT] _ _ _ (HV11.out.below ((Below.refl _ _).alloc (Nat.le_refl _) _)) (slc_built w11 _ 1 2 ([trT, tsT].map .string) rfl) (by decide)).mono ?_
  rintro ev w12 ⟨rfl, hb12⟩
  have HW12 := Lib.hid ((HW11.out.alloc HW11.out.size _).trans (hb12.mono (HW11.out.alloc HW11.out.size _).size))
  clear hb12
  go_wp2_with fail
  change Calls Tryd.prog _ #[(ErrT.wrap trT 4 (.wrap tsT 1 (.sent 9))).val A, .int .i64 (10 : Int), .string trT, .int .i64 4] _ _
  refine (is_c A (.wrap trT 4 (.wrap tsT 1 (.sent 9))) 10 trT 4 w12 (HS.out.below HW12.out) ⟨rfl, rfl, show (9 : Nat) < 10 by omega⟩ (by omega) (by omega)).mono ?_
  rintro ev w13 ⟨rfl, hb13⟩
  rw [show isK (.wrap trT 4 (.wrap tsT 1 (.sent 9))) 10 trT 4 = true by simp [isK, ErrT.code]]
  have HW13 := Lib.hid (HW12.out.trans (hb13.mono HW12.out.size))
  clear hb13
  go_wp2_with fail
  change Calls Tryd.prog _ #[(ErrT.wrap trT 4 (.wrap tsT 0 (.sent 8))).val A, .int .i64 (9 : Int), .string trT, .int .i64 4] _ _
  refine (is_c A (.wrap trT 4 (.wrap tsT 0 (.sent 8))) 9 trT 4 w13 (HS.out.below HW13.out) ⟨rfl, rfl, show (8 : Nat) < 10 by omega⟩ (by omega) (by omega)).mono ?_
  rintro ev w14 ⟨rfl, hb14⟩
  rw [show isK (.wrap trT 4 (.wrap tsT 0 (.sent 8))) 9 trT 4 = true by simp [isK, ErrT.code]]
  go_wp2_with fail
  go_ret
  exact ⟨rfl, HW13.out.trans (hb14.mono HW13.out.size)⟩

end Go.Proofs.YtamklohnmbgklaaDoor
