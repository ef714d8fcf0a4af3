/- FabricRuns: true; no condition but what a start gives. -/
import Derived.Test.YtbefkkefglkleaaDoorFb4
namespace Go.Proofs.YtbefkkefglkleaaDoor
open Go.RowKit Go.Extern.Stop Go.Stop Go.Extern

def rF0 : Plc → List MsgV := fun _ => []
def rF1 : Plc → List MsgV := sendF 2 1 rF0 [ofM 1 0]
def rF2 : Plc → List MsgV := sendF 2 1 rF1 [ofM 1 1]
def rF3 : Plc → List MsgV := takeF 2 rF2 0 5 0
def rF4 : Plc → List MsgV := sendF 2 1 rF3 [ofM 6 0, ofM 6 1, ofM 6 0]
theorem rFit1 : fitsE 2 1 rF0 [ofM 1 0] = .nil := by kernel_rfl
theorem rFit2 : fitsE 2 1 rF1 [ofM 1 1] = .wrap fsT 0 (.sent 5) := by kernel_rfl
theorem rFit4 : fitsE 2 1 rF3 [ofM 6 0, ofM 6 1, ofM 6 0] = .wrap fsT 2 (.sent 5) := by kernel_rfl
theorem rPeek : peekP 2 rF2 0 5 0 = (ofM 1 0, true) := by kernel_rfl
theorem rN1 : 0 + sentN 2 1 rF0 [ofM 1 0] = 1 := by kernel_rfl
theorem rN2 : 1 + sentN 2 1 rF1 [ofM 1 1] = 1 := by kernel_rfl
theorem rN3 : 1 + 0 - tookN 2 rF2 0 5 0 = 0 := by kernel_rfl
theorem rN4 : 0 + sentN 2 1 rF3 [ofM 6 0, ofM 6 1, ofM 6 0] = 0 := by kernel_rfl
theorem rLen : lenP 2 rF4 1 0 = 0 := by kernel_rfl
theorem rLe0 : LeF rF0 1 := LeF.nil 1
theorem rLe1 : LeF rF1 1 := rLe0.send 2 _
theorem rLe2 : LeF rF2 1 := rLe1.send 2 _
theorem rLe3 : LeF rF3 1 := rLe2.take 2 0 5 0
theorem rEq : eqM ⟨1, 0, 0, 0, 0, 0, 0, 0, 0, 0, 0, 0, false⟩ ⟨1, 0, 0, 0, 0, 0, 0, 0, 0, 0, 0, 0, false⟩ = true := by kernel_rfl

set_option maxRecDepth 100000 in
set_option maxHeartbeats 8000000 in
theorem fabricRuns (A : Nat → Addr) (w : World) (hs : SentAt w A) : Calls Tryd.prog 3 #[] w (TruePost w) := by
  have HS := Lib.hid hs
  clear hs
  go_enter Tryd.func3, Tryd.ntmps3
  go_wp2_with fail
  refine (fbs_new 2 1 [] w (by omega) (by omega) (by omega) (by omega) (fun q hq => by cases hq)).mono ?_
  rintro ev w1 ⟨b, rfl, hF⟩
  have HF := Lib.hid (show FbS w b 2 1 rF0 0 [] w1 from hF)
  clear hF
  go_wp2_with fail
  refine (of_c 1 0 w1).mono ?_
  rintro ev w2 ⟨rfl, hb⟩
  simp only [ofM, MsgV.v]
  have HF := Lib.hid (HF.out.bel hb)
  clear hb
  go_wp2_with fail
  refine (fbs_sendB A w b 0 2 1 1 rfl rF0 [] [ofM 1 0] w2 HF.out HS.out (fun q hq => by cases hq) (by decide) rLe0 (by omega)).mono ?_
  rintro ev w3 ⟨rfl, hF, _⟩
  rw [rN1] at hF
  rw [rFit1, show ErrT.nil.val A = .nilIface from rfl]
  have HF := Lib.hid (show FbS w b 2 1 rF1 1 [] w3 from hF)
  clear hF
  go_wp2_with fail
  refine (of_c 1 1 w3).mono ?_
  rintro ev w4 ⟨rfl, hb⟩
  simp only [ofM, MsgV.v]
  have HF := Lib.hid (HF.out.bel hb)
  clear hb
  go_wp2_with fail
  refine (fbs_sendB A w b 1 2 1 1 rfl rF1 [] [ofM 1 1] w4 HF.out HS.out (fun q hq => by cases hq) (by decide) rLe1 (by omega)).mono ?_
  rintro ev w5 ⟨rfl, hF, _⟩
  rw [rN2] at hF
  rw [rFit2, show (ErrT.wrap fsT 0 (.sent 5)).val A = .iface 75 (.agg #[.string fsT, .int .i64 0, .iface 116 (.pointer (some (A 5)))]) from rfl]
  have HF := Lib.hid (show FbS w b 2 1 rF2 1 [] w5 from hF)
  clear hF
  go_wp2_with fail
  refine (fbs_take w b 1 2 1 0 5 0 rF2 [] w5 HF.out (fun q hq => by cases hq)).mono ?_
  rintro ev w6 ⟨rfl, hF, _⟩
  rw [rN3] at hF
  rw [rPeek]
  simp only [ofM, MsgV.v]
  have HF := Lib.hid (show FbS w b 2 1 rF3 0 [] w6 from hF)
  clear hF
  go_upto_region 6 with fail
  obtain ⟨h5, hh5⟩ : ∃ h, h = w6.heap.size := ⟨_, rfl⟩
  have hb : Below w6.heap.size w6 (w6.alloc (.cells #[.int .i64 1, .int .i64 0, .int .i64 0, .int .i64 0, .int .i64 0, .int .i64 0, .int .i64 0, .int .u32 0, .int .u32 0, .int .u32 0, .int .u32 0, .int .u32 0, .bool false] 32)) := (Below.refl _ _).alloc (Nat.le_refl _) _
  have HF := Lib.hid ((HF.out.add h5 (by omega)).bel hb)
  have HX := Lib.hid (show (w6.alloc (.cells #[.int .i64 1, .int .i64 0, .int .i64 0, .int .i64 0, .int .i64 0, .int .i64 0, .int .i64 0, .int .u32 0, .int .u32 0, .int .u32 0, .int .u32 0, .int .u32 0, .bool false] 32)).heap[h5]? = some (.cells #[.int .i64 1, .int .i64 0, .int .i64 0, .int .i64 0, .int .i64 0, .int .i64 0, .int .i64 0, .int .u32 0, .int .u32 0, .int .u32 0, .int .u32 0, .int .u32 0, .bool false] 32 (0, 0)) from by rw [hh5]; exact heap_alloc_new _ _)
  rw [← hh5]
  clear hb hh5
  generalize w6.alloc (.cells #[.int .i64 1, .int .i64 0, .int .i64 0, .int .i64 0, .int .i64 0, .int .i64 0, .int .i64 0, .int .u32 0, .int .u32 0, .int .u32 0, .int .u32 0, .int .u32 0, .bool false] 32) = w7 at *
  go_wp2_with fail
  refine (fbs_all w b 0 2 1 rF3 [h5] w7 HF.out (by omega)).mono ?_
  rintro ev w8 ⟨rfl, hb⟩
  have HF := Lib.hid (HF.out.bel hb)
  have HX := Lib.hid ((hb.block _ (Array.getElem?_eq_some_iff.1 HX.out).1).trans HX.out)
  clear hb
  go_wp2_with fail
  refine (of_c 6 0 w8).mono ?_
  rintro ev w9 ⟨rfl, hb⟩
  simp only [ofM, MsgV.v]
  have HF := Lib.hid (HF.out.bel hb)
  have HX := Lib.hid ((hb.block _ (Array.getElem?_eq_some_iff.1 HX.out).1).trans HX.out)
  clear hb
  go_wp2_with fail
  refine (of_c 6 1 w9).mono ?_
  rintro ev w10 ⟨rfl, hb⟩
  simp only [ofM, MsgV.v]
  have HF := Lib.hid (HF.out.bel hb)
  have HX := Lib.hid ((hb.block _ (Array.getElem?_eq_some_iff.1 HX.out).1).trans HX.out)
  clear hb
  go_wp2_with fail
  refine (of_c 6 0 w10).mono ?_
  rintro ev w11 ⟨rfl, hb⟩
  simp only [ofM, MsgV.v]
  have HF := Lib.hid (HF.out.bel hb)
  have HX := Lib.hid ((hb.block _ (Array.getElem?_eq_some_iff.1 HX.out).1).trans HX.out)
  clear hb
  go_wp2_with fail
  refine (fbs_sendB A w b 0 2 1 1 rfl rF3 [h5] [ofM 6 0, ofM 6 1, ofM 6 0] w11 HF.out HS.out (fun q hq => by
    obtain rfl : q = h5 := by simpa using hq
    exact (Array.getElem?_eq_some_iff.1 HX.out).1) (by decide) rLe3 (by omega)).mono ?_
  rintro ev w12 ⟨rfl, hF, hk⟩
  rw [rN4] at hF
  rw [rFit4, show (ErrT.wrap fsT 2 (.sent 5)).val A = .iface 75 (.agg #[.string fsT, .int .i64 2, .iface 116 (.pointer (some (A 5)))]) from rfl]
  have HF := Lib.hid (show FbS w b 2 1 rF4 0 [h5] w12 from hF)
  have HX := Lib.hid (hk.at (List.mem_cons_self ..) HX.out)
  clear hF hk
  go_upto_region 8 with fail
  have hxq := HX.out
  have q0 := cell_of hxq 0
  have q1 := cell_of hxq 1
  have q2 := cell_of hxq 2
  have q3 := cell_of hxq 3
  have q4 := cell_of hxq 4
  have q5 := cell_of hxq 5
  have q6 := cell_of hxq 6
  have q7 := cell_of hxq 7
  have q8 := cell_of hxq 8
  have q9 := cell_of hxq 9
  have q10 := cell_of hxq 10
  have q11 := cell_of hxq 11
  have q12 := cell_of hxq 12
  simp only [List.getElem?_toArray, List.getElem?_cons_zero, List.getElem?_cons_succ] at q0 q1 q2 q3 q4 q5 q6 q7 q8 q9 q10 q11 q12
  have hlq := (Array.getElem?_eq_some_iff.1 hxq).1
  have heq := fun w => run_eqMs 1 0 0 0 0 0 0 0 0 0 0 0 1 0 0 0 0 0 0 0 0 0 0 0 false false w
  rw [rEq] at heq
  refine wp_region_lexA ⟨[], []⟩ (fun x => Below w12.heap.size w12 x) (by kernel_rfl) (by kernel_rfl) (Below.refl _ _).drew ?_
  intro S hto hof hne
  have yq0 : ∀ z : Wd S, z.w.cell? ⟨h5, 0, none⟩ = some (.int .i64 1) := fun z => ((hto z).cell (p := ⟨h5, 0, none⟩) hlq).trans q0
  have yq1 : ∀ z : Wd S, z.w.cell? ⟨h5, 1, none⟩ = some (.int .i64 0) := fun z => ((hto z).cell (p := ⟨h5, 1, none⟩) hlq).trans q1
  have yq2 : ∀ z : Wd S, z.w.cell? ⟨h5, 2, none⟩ = some (.int .i64 0) := fun z => ((hto z).cell (p := ⟨h5, 2, none⟩) hlq).trans q2
  have yq3 : ∀ z : Wd S, z.w.cell? ⟨h5, 3, none⟩ = some (.int .i64 0) := fun z => ((hto z).cell (p := ⟨h5, 3, none⟩) hlq).trans q3
  have yq4 : ∀ z : Wd S, z.w.cell? ⟨h5, 4, none⟩ = some (.int .i64 0) := fun z => ((hto z).cell (p := ⟨h5, 4, none⟩) hlq).trans q4
  have yq5 : ∀ z : Wd S, z.w.cell? ⟨h5, 5, none⟩ = some (.int .i64 0) := fun z => ((hto z).cell (p := ⟨h5, 5, none⟩) hlq).trans q5
  have yq6 : ∀ z : Wd S, z.w.cell? ⟨h5, 6, none⟩ = some (.int .i64 0) := fun z => ((hto z).cell (p := ⟨h5, 6, none⟩) hlq).trans q6
  have yq7 : ∀ z : Wd S, z.w.cell? ⟨h5, 7, none⟩ = some (.int .u32 0) := fun z => ((hto z).cell (p := ⟨h5, 7, none⟩) hlq).trans q7
  have yq8 : ∀ z : Wd S, z.w.cell? ⟨h5, 8, none⟩ = some (.int .u32 0) := fun z => ((hto z).cell (p := ⟨h5, 8, none⟩) hlq).trans q8
  have yq9 : ∀ z : Wd S, z.w.cell? ⟨h5, 9, none⟩ = some (.int .u32 0) := fun z => ((hto z).cell (p := ⟨h5, 9, none⟩) hlq).trans q9
  have yq10 : ∀ z : Wd S, z.w.cell? ⟨h5, 10, none⟩ = some (.int .u32 0) := fun z => ((hto z).cell (p := ⟨h5, 10, none⟩) hlq).trans q10
  have yq11 : ∀ z : Wd S, z.w.cell? ⟨h5, 11, none⟩ = some (.int .u32 0) := fun z => ((hto z).cell (p := ⟨h5, 11, none⟩) hlq).trans q11
  have yq12 : ∀ z : Wd S, z.w.cell? ⟨h5, 12, none⟩ = some (.bool false) := fun z => ((hto z).cell (p := ⟨h5, 12, none⟩) hlq).trans q12
  have Hof := Lib.hid hof
  clear hto hof hxq hlq q0 q1 q2 q3 q4 q5 q6 q7 q8 q9 q10 q11 q12
  refine lexW_light 4 (by kernel_rfl) ?_
  simp only [List.take_succ_cons, List.take_zero, List.drop_succ_cons, List.drop_zero]
  repeat (first | go_big_quiet_skip | (go_big_quiet_want; go_big_quiet_op; go_big_quiet_on))
  refine wpQuiet_nil ?_
  refine lexW_heavy (by kernel_rfl) ?_
  go_wp2_with fail
  change Calls Tryd.prog _ #[(ErrT.wrap fsT 0 (.sent 5)).val A, .int .i64 (6 : Int), .string fsT, .int .i64 0] _ _
  refine (is_c A (.wrap fsT 0 (.sent 5)) 6 fsT 0 w12.drew (HS.out.below HF.out.below.drew) ⟨rfl, show (5 : Nat) < 10 by omega⟩ (by omega) (by omega)).mono ?_
  rintro ev w13 ⟨rfl, hb⟩
  rw [show isK (.wrap fsT 0 (.sent 5)) 6 fsT 0 = true by simp [isK, ErrT.code]]
  have HB := Lib.hid ((Below.refl w12.heap.size w12).drew.trans hb)
  clear hb
  go_wp2_with fail
  refine lexQ_more (Hof.out _ HB.out) ?_
  refine lexW_light 6 (by kernel_rfl) ?_
  simp only [List.take_succ_cons, List.take_zero, List.drop_succ_cons, List.drop_zero]
  repeat (first | go_big_quiet_skip | (go_big_quiet_want; go_big_quiet_op; go_big_quiet_on))
  refine wpQuiet_nil ?_
  refine lexW_heavy (by kernel_rfl) ?_
  go_wp2_with fail
  refine (of_c 1 0 w13).mono ?_
  rintro ev w14 ⟨rfl, hb⟩
  simp only [ofM, MsgV.v]
  have HB := Lib.hid (HB.out.trans (hb.mono HB.out.size))
  clear hb
  go_wp2_with fail
  refine lexQ_more (Hof.out _ HB.out) ?_
  refine lexW_light 8 (by kernel_rfl) ?_
  simp only [List.take_succ_cons, List.take_zero, List.drop_succ_cons, List.drop_zero]
  repeat (first | go_big_quiet_skip | (go_big_quiet_want; go_big_quiet_op; go_big_quiet_on))
  refine wpQuiet_nil ?_
  refine lexW_heavy (by kernel_rfl) ?_
  go_wp2_with fail
  change Calls Tryd.prog _ #[(ErrT.wrap fsT 2 (.sent 5)).val A, .int .i64 (6 : Int), .string fsT, .int .i64 2] _ _
  refine (is_c A (.wrap fsT 2 (.sent 5)) 6 fsT 2 w14 (HS.out.below (HF.out.below.trans (HB.out.mono HF.out.below.size))) ⟨rfl, show (5 : Nat) < 10 by omega⟩ (by omega) (by omega)).mono ?_
  rintro ev w15 ⟨rfl, hb⟩
  rw [show isK (.wrap fsT 2 (.sent 5)) 6 fsT 2 = true by simp [isK, ErrT.code]]
  have HB := Lib.hid (HB.out.trans (hb.mono HB.out.size))
  clear hb
  go_wp2_with fail
  refine lexQ_more (Hof.out _ HB.out) ?_
  refine lexW_light 3 (by kernel_rfl) ?_
  simp only [List.take_succ_cons, List.take_zero, List.drop_succ_cons, List.drop_zero]
  repeat (first | go_big_quiet_skip | (go_big_quiet_want; go_big_quiet_op; go_big_quiet_on))
  refine wpQuiet_nil ?_
  refine lexW_heavy (by kernel_rfl) ?_
  go_wp2_with fail
  refine (fbs_len w b 0 2 1 1 0 rF4 [h5] w15 (HF.out.bel HB.out)).mono ?_
  rintro ev w16 ⟨rfl, hb⟩
  rw [rLen]
  have HB := Lib.hid (HB.out.trans (hb.mono HB.out.size))
  clear hb
  go_wp2_with fail
  refine lexQ_more (Hof.out _ HB.out) ?_
  refine lexW_light 3 (by kernel_rfl) ?_
  simp only [List.take_succ_cons, List.take_zero, List.drop_succ_cons, List.drop_zero]
  repeat (first | go_big_quiet_skip | (go_big_quiet_want; go_big_quiet_op; go_big_quiet_on))
  refine wpQuiet_nil ?_
  refine lexW_done ?_
  clear yq0 yq1 yq2 yq3 yq4 yq5 yq6 yq7 yq8 yq9 yq10 yq11 yq12 heq Hof hne
  go_wp2_with fail
  go_ret
  exact ⟨rfl, HF.out.below.trans (HB.out.mono HF.out.below.size)⟩

end Go.Proofs.YtbefkkefglkleaaDoor
