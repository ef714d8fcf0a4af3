/- MsgApart: true; no condition but what a start gives. -/
import Derived.Test.YtpljdbcifaeblaaDoorLMg3
namespace Go.Proofs.YtpljdbcifaeblaaDoor
open Go.RowKit Go.Extern.Stop Go.Stop Go.Extern

def Halt7 (p : Prop) : Prop := p
theorem halt7 {p : Prop} (h : Halt7 p) : p := h
theorem nInfoB7 : (Tryd.prog.info? 5).map (fun i => (i.zero, i.size, i.bytes)) = some (some (.int .u8 0), 1, 1) := by kernel_rfl
theorem winRow_made7 (w : World) (e : TypeId) (size : Nat) : winRow (w.alloc (.cells #[] e)) w.heap.size e size (.slice (some ⟨w.heap.size, 0, none⟩) 0 0) 0 [] :=
  .of_owns (by simpa using World.ownsRow_made w (size := size) #[] 0 (Nat.le_refl _) (Nat.zero_le _) (by simp))
/-- One message's bytes are no other's beginning. -/
theorem enc_apart {m n : MsgV} (hm : m.Right) (fm : m.fit) (hn : n.Right) (fn : n.fit) (h : m ≠ n) : (encM n).take (encM m).length ≠ encM m := by
  intro he
  have h1 : encM n = encM m ++ (encM n).drop (encM m).length := by
    conv => lhs; rw [← List.take_append_drop (encM m).length (encM n), he]
  by_cases h2 : 0 < ((encM n).drop (encM m).length).length
  · have h3 := tell_tail hm fm h2
    rw [← h1, tell_enc hn fn] at h3
    cases h3
  · rw [List.eq_nil_of_length_eq_zero (show ((encM n).drop (encM m).length).length = 0 by omega), List.append_nil] at h1
    exact h (encM_inj hm fm hn fn h1.symm)

set_option maxRecDepth 100000 in
set_option maxHeartbeats 8000000 in
theorem msgApart (A : Nat → Addr) (m n : MsgV) (w : World) (hs : SentAt w A) (fm : m.fit) (fn : n.fit) :
    Calls Tryd.prog 14 #[m.v, n.v] w (TruePost w) := by
  obtain ⟨i0, hi0, hi1⟩ := Option.map_eq_some_iff.1 nInfoB7
  simp only [Prod.mk.injEq] at hi1
  obtain ⟨hz0, hz1, hz2⟩ := hi1
  have HI := Lib.hid hi0
  have HZ0 := Lib.hid hz0
  have HZ1 := Lib.hid hz1
  have HZ2 := Lib.hid hz2
  have HSE := Lib.hid hs
  have HFM := Lib.hid fm
  have HFN := Lib.hid fn
  clear hs fm fn hi0 hz0 hz1 hz2
  have HS0 := Lib.hid (MBs.two w m n)
  obtain ⟨a1, a2, a3, a4, a5, a6, a7, a8, a9, a10, a11, a12, a13⟩ := m
  obtain ⟨b1, b2, b3, b4, b5, b6, b7, b8, b9, b10, b11, b12, b13⟩ := n
  simp only [MsgV.v] at HS0 ⊢
  obtain ⟨h5, hh5⟩ : ∃ h5, h5 = w.heap.size + 1 := ⟨_, rfl⟩
  rw [← hh5] at HS0
  obtain ⟨h4, hh4⟩ : ∃ h4, h4 = w.heap.size := ⟨_, rfl⟩
  go_enter Tryd.func14, Tryd.ntmps14
  go_upto_region 1 with fail
  rw [← hh5, ← hh4]
  have HS1 := Lib.hid (show MBs w h4 h5 ⟨a1, a2, a3, a4, a5, a6, a7, a8, a9, a10, a11, a12, a13⟩ ⟨b1, b2, b3, b4, b5, b6, b7, b8, b9, b10, b11, b12, b13⟩ ((w.alloc (.cells #[.int .i64 a1, .int .i64 a2, .int .i64 a3, .int .i64 a4, .int .i64 a5, .int .i64 a6, .int .i64 a7, .int .u32 a8, .int .u32 a9, .int .u32 a10, .int .u32 a11, .int .u32 a12, .bool a13] 54)).alloc (.cells #[.int .i64 b1, .int .i64 b2, .int .i64 b3, .int .i64 b4, .int .i64 b5, .int .i64 b6, .int .i64 b7, .int .u32 b8, .int .u32 b9, .int .u32 b10, .int .u32 b11, .int .u32 b12, .bool b13] 54)) from by rw [hh4]; exact HS0.out)
  generalize (w.alloc (.cells #[.int .i64 a1, .int .i64 a2, .int .i64 a3, .int .i64 a4, .int .i64 a5, .int .i64 a6, .int .i64 a7, .int .u32 a8, .int .u32 a9, .int .u32 a10, .int .u32 a11, .int .u32 a12, .bool a13] 54)).alloc (.cells #[.int .i64 b1, .int .i64 b2, .int .i64 b3, .int .i64 b4, .int .i64 b5, .int .i64 b6, .int .i64 b7, .int .u32 b8, .int .u32 b9, .int .u32 b10, .int .u32 b11, .int .u32 b12, .bool b13] 54) = w1 at *
  clear hh4 hh5 HS0
  refine wp_region_lexA ⟨[], []⟩ (fun x => Below w1.heap.size w1 x) (by kernel_rfl) (by kernel_rfl) (Below.refl _ _).drew ?_
  intro S hto hof hne
  have hxf := HS1.out.m
  have f0 := cell_of hxf 0
  have f1 := cell_of hxf 1
  have f2 := cell_of hxf 2
  have f3 := cell_of hxf 3
  have f4 := cell_of hxf 4
  have f5 := cell_of hxf 5
  have f6 := cell_of hxf 6
  have f7 := cell_of hxf 7
  have f8 := cell_of hxf 8
  have f9 := cell_of hxf 9
  have f10 := cell_of hxf 10
  have f11 := cell_of hxf 11
  have f12 := cell_of hxf 12
  simp only [List.getElem?_toArray, List.getElem?_cons_zero, List.getElem?_cons_succ] at f0 f1 f2 f3 f4 f5 f6 f7 f8 f9 f10 f11 f12
  have hlf := (Array.getElem?_eq_some_iff.1 hxf).1
  have xf0 : ∀ z : Wd S, z.w.cell? ⟨h4, 0, none⟩ = some (.int .i64 a1) := fun z => ((hto z).cell (p := ⟨h4, 0, none⟩) hlf).trans f0
  have xf1 : ∀ z : Wd S, z.w.cell? ⟨h4, 1, none⟩ = some (.int .i64 a2) := fun z => ((hto z).cell (p := ⟨h4, 1, none⟩) hlf).trans f1
  have xf2 : ∀ z : Wd S, z.w.cell? ⟨h4, 2, none⟩ = some (.int .i64 a3) := fun z => ((hto z).cell (p := ⟨h4, 2, none⟩) hlf).trans f2
  have xf3 : ∀ z : Wd S, z.w.cell? ⟨h4, 3, none⟩ = some (.int .i64 a4) := fun z => ((hto z).cell (p := ⟨h4, 3, none⟩) hlf).trans f3
  have xf4 : ∀ z : Wd S, z.w.cell? ⟨h4, 4, none⟩ = some (.int .i64 a5) := fun z => ((hto z).cell (p := ⟨h4, 4, none⟩) hlf).trans f4
  have xf5 : ∀ z : Wd S, z.w.cell? ⟨h4, 5, none⟩ = some (.int .i64 a6) := fun z => ((hto z).cell (p := ⟨h4, 5, none⟩) hlf).trans f5
  have xf6 : ∀ z : Wd S, z.w.cell? ⟨h4, 6, none⟩ = some (.int .i64 a7) := fun z => ((hto z).cell (p := ⟨h4, 6, none⟩) hlf).trans f6
  have xf7 : ∀ z : Wd S, z.w.cell? ⟨h4, 7, none⟩ = some (.int .u32 a8) := fun z => ((hto z).cell (p := ⟨h4, 7, none⟩) hlf).trans f7
  have xf8 : ∀ z : Wd S, z.w.cell? ⟨h4, 8, none⟩ = some (.int .u32 a9) := fun z => ((hto z).cell (p := ⟨h4, 8, none⟩) hlf).trans f8
  have xf9 : ∀ z : Wd S, z.w.cell? ⟨h4, 9, none⟩ = some (.int .u32 a10) := fun z => ((hto z).cell (p := ⟨h4, 9, none⟩) hlf).trans f9
  have xf10 : ∀ z : Wd S, z.w.cell? ⟨h4, 10, none⟩ = some (.int .u32 a11) := fun z => ((hto z).cell (p := ⟨h4, 10, none⟩) hlf).trans f10
  have xf11 : ∀ z : Wd S, z.w.cell? ⟨h4, 11, none⟩ = some (.int .u32 a12) := fun z => ((hto z).cell (p := ⟨h4, 11, none⟩) hlf).trans f11
  have xf12 : ∀ z : Wd S, z.w.cell? ⟨h4, 12, none⟩ = some (.bool a13) := fun z => ((hto z).cell (p := ⟨h4, 12, none⟩) hlf).trans f12
  clear hxf hlf f0 f1 f2 f3 f4 f5 f6 f7 f8 f9 f10 f11 f12
  have hxg := HS1.out.n
  have g0 := cell_of hxg 0
  have g1 := cell_of hxg 1
  have g2 := cell_of hxg 2
  have g3 := cell_of hxg 3
  have g4 := cell_of hxg 4
  have g5 := cell_of hxg 5
  have g6 := cell_of hxg 6
  have g7 := cell_of hxg 7
  have g8 := cell_of hxg 8
  have g9 := cell_of hxg 9
  have g10 := cell_of hxg 10
  have g11 := cell_of hxg 11
  have g12 := cell_of hxg 12
  simp only [List.getElem?_toArray, List.getElem?_cons_zero, List.getElem?_cons_succ] at g0 g1 g2 g3 g4 g5 g6 g7 g8 g9 g10 g11 g12
  have hlg := (Array.getElem?_eq_some_iff.1 hxg).1
  have xg0 : ∀ z : Wd S, z.w.cell? ⟨h5, 0, none⟩ = some (.int .i64 b1) := fun z => ((hto z).cell (p := ⟨h5, 0, none⟩) hlg).trans g0
  have xg1 : ∀ z : Wd S, z.w.cell? ⟨h5, 1, none⟩ = some (.int .i64 b2) := fun z => ((hto z).cell (p := ⟨h5, 1, none⟩) hlg).trans g1
  have xg2 : ∀ z : Wd S, z.w.cell? ⟨h5, 2, none⟩ = some (.int .i64 b3) := fun z => ((hto z).cell (p := ⟨h5, 2, none⟩) hlg).trans g2
  have xg3 : ∀ z : Wd S, z.w.cell? ⟨h5, 3, none⟩ = some (.int .i64 b4) := fun z => ((hto z).cell (p := ⟨h5, 3, none⟩) hlg).trans g3
  have xg4 : ∀ z : Wd S, z.w.cell? ⟨h5, 4, none⟩ = some (.int .i64 b5) := fun z => ((hto z).cell (p := ⟨h5, 4, none⟩) hlg).trans g4
  have xg5 : ∀ z : Wd S, z.w.cell? ⟨h5, 5, none⟩ = some (.int .i64 b6) := fun z => ((hto z).cell (p := ⟨h5, 5, none⟩) hlg).trans g5
  have xg6 : ∀ z : Wd S, z.w.cell? ⟨h5, 6, none⟩ = some (.int .i64 b7) := fun z => ((hto z).cell (p := ⟨h5, 6, none⟩) hlg).trans g6
  have xg7 : ∀ z : Wd S, z.w.cell? ⟨h5, 7, none⟩ = some (.int .u32 b8) := fun z => ((hto z).cell (p := ⟨h5, 7, none⟩) hlg).trans g7
  have xg8 : ∀ z : Wd S, z.w.cell? ⟨h5, 8, none⟩ = some (.int .u32 b9) := fun z => ((hto z).cell (p := ⟨h5, 8, none⟩) hlg).trans g8
  have xg9 : ∀ z : Wd S, z.w.cell? ⟨h5, 9, none⟩ = some (.int .u32 b10) := fun z => ((hto z).cell (p := ⟨h5, 9, none⟩) hlg).trans g9
  have xg10 : ∀ z : Wd S, z.w.cell? ⟨h5, 10, none⟩ = some (.int .u32 b11) := fun z => ((hto z).cell (p := ⟨h5, 10, none⟩) hlg).trans g10
  have xg11 : ∀ z : Wd S, z.w.cell? ⟨h5, 11, none⟩ = some (.int .u32 b12) := fun z => ((hto z).cell (p := ⟨h5, 11, none⟩) hlg).trans g11
  have xg12 : ∀ z : Wd S, z.w.cell? ⟨h5, 12, none⟩ = some (.bool b13) := fun z => ((hto z).cell (p := ⟨h5, 12, none⟩) hlg).trans g12
  clear hxg hlg g0 g1 g2 g3 g4 g5 g6 g7 g8 g9 g10 g11 g12
  have Hof := Lib.hid hof
  clear hto hof
  refine lexW_light 1 (by kernel_rfl) ?_
  simp only [List.take_succ_cons, List.take_zero, List.drop_succ_cons, List.drop_zero]
  repeat (first | go_big_quiet_skip | (go_big_quiet_want; go_big_quiet_op; go_big_quiet_on))
  refine wpQuiet_nil ?_
  refine lexW_heavy (by kernel_rfl) ?_
  go_wp2_with fail
  refine (mput_c ⟨a1, a2, a3, a4, a5, a6, a7, a8, a9, a10, a11, a12, a13⟩ w1.drew HFM.out).mono ?_
  rintro ev w2 ⟨u2, rfl, hu2, hb2⟩
  have HB2 := Lib.hid ((Below.refl w1.heap.size w1).drew.trans hb2)
  obtain ⟨ap2, cp2, rfl⟩ := hu2.len
  have HC2 := Lib.hid hu2.capn
  have HU2 := Lib.hid hu2.slc
  clear hu2 hb2
  go_wp2_with fail
  refine lexQ_more (Hof.out _ HB2.out) ?_
  refine lexW_light 1 (by kernel_rfl) ?_
  simp only [List.take_succ_cons, List.take_zero, List.drop_succ_cons, List.drop_zero]
  repeat (first | go_big_quiet_skip | (go_big_quiet_want; go_big_quiet_op; go_big_quiet_on))
  refine wpQuiet_nil ?_
  refine lexW_heavy (by kernel_rfl) ?_
  go_wp2_with fail
  refine (mput_c ⟨b1, b2, b3, b4, b5, b6, b7, b8, b9, b10, b11, b12, b13⟩ w2 HFN.out).mono ?_
  rintro ev w3 ⟨u3, rfl, hu3, hb3⟩
  have HB3 := Lib.hid (HB2.out.trans (hb3.mono HB2.out.size))
  obtain ⟨ap3, cp3, rfl⟩ := hu3.len
  have HC3 := Lib.hid hu3.capn
  have HU3 := Lib.hid hu3.slc
  have HA3 := Lib.hid (HU2.out.below hb3)
  clear hu3 hb3 HU2
  go_wp2_with fail
  refine lexQ_more (Hof.out _ HB3.out) ?_
  refine lexW_light 2 (by kernel_rfl) ?_
  simp only [List.take_succ_cons, List.take_zero, List.drop_succ_cons, List.drop_zero]
  repeat (first | go_big_quiet_skip | (go_big_quiet_want; go_big_quiet_op; go_big_quiet_on))
  refine wpQuiet_nil ?_
  refine lexW_done ?_
  have HS3 := Lib.hid (HS1.out.bel HB3.out)
  clear xf0 xf1 xf2 xf3 xf4 xf5 xf6 xf7 xf8 xf9 xf10 xf11 xf12 xg0 xg1 xg2 xg3 xg4 xg5 xg6 xg7 xg8 xg9 xg10 xg11 xg12 Hof HB2 HB3 HS1 hne
  go_upto_region 2 with fail
  cases hrm : rightM ⟨a1, a2, a3, a4, a5, a6, a7, a8, a9, a10, a11, a12, a13⟩ with
  | false =>
    have HRM := Lib.hid hrm
    have hpm := putM_wrong hrm
    clear HA3 HC2
    rw [hpm]
    clear hrm hpm
    cases hrn : rightM ⟨b1, b2, b3, b4, b5, b6, b7, b8, b9, b10, b11, b12, b13⟩ with
    | false =>
      have HRN := Lib.hid hrn
      have hpn := putM_wrong hrn
      clear HU3 HC3
      rw [hpn]
      clear hrn hpn
      have hxq := HS3.out.m
      have q0 := cell_of hxq 0
      have q1 := cell_of hxq 1
      have q2 := cell_of hxq 2
      have q3 := cell_of hxq 3
      have q4 := cell_of hxq 4
      have q5 := cell_of hxq 5
      have q6 := cell_of hxq 6
      have q7 := cell_of hxq 7
      have q8 := cell_of hxq 8
      have q9 := cell_of hxq 9
      have q10 := cell_of hxq 10
      have q11 := cell_of hxq 11
      have q12 := cell_of hxq 12
      simp only [List.getElem?_toArray, List.getElem?_cons_zero, List.getElem?_cons_succ] at q0 q1 q2 q3 q4 q5 q6 q7 q8 q9 q10 q11 q12
      have hlq := (Array.getElem?_eq_some_iff.1 hxq).1
      go_wp2_with fail
      refine (mright_c ⟨a1, a2, a3, a4, a5, a6, a7, a8, a9, a10, a11, a12, a13⟩ w3).mono ?_
      rintro ev w4 ⟨rfl, hbq⟩
      rw [HRM.out]
      have HS4 := Lib.hid (HS3.out.bel hbq)
      clear hbq
      clear hxq hlq q0 q1 q2 q3 q4 q5 q6 q7 q8 q9 q10 q11 q12
      have hxq := HS4.out.m
      have q0 := cell_of hxq 0
      have q1 := cell_of hxq 1
      have q2 := cell_of hxq 2
      have q3 := cell_of hxq 3
      have q4 := cell_of hxq 4
      have q5 := cell_of hxq 5
      have q6 := cell_of hxq 6
      have q7 := cell_of hxq 7
      have q8 := cell_of hxq 8
      have q9 := cell_of hxq 9
      have q10 := cell_of hxq 10
      have q11 := cell_of hxq 11
      have q12 := cell_of hxq 12
      simp only [List.getElem?_toArray, List.getElem?_cons_zero, List.getElem?_cons_succ] at q0 q1 q2 q3 q4 q5 q6 q7 q8 q9 q10 q11 q12
      have hlq := (Array.getElem?_eq_some_iff.1 hxq).1
      go_wp2_with fail
      refine (mright_c ⟨a1, a2, a3, a4, a5, a6, a7, a8, a9, a10, a11, a12, a13⟩ w4).mono ?_
      rintro ev w5 ⟨rfl, hbq⟩
      rw [HRM.out]
      have HS5 := Lib.hid (HS4.out.bel hbq)
      clear hbq
      clear hxq hlq q0 q1 q2 q3 q4 q5 q6 q7 q8 q9 q10 q11 q12
      have hxq := HS5.out.n
      have q0 := cell_of hxq 0
      have q1 := cell_of hxq 1
      have q2 := cell_of hxq 2
      have q3 := cell_of hxq 3
      have q4 := cell_of hxq 4
      have q5 := cell_of hxq 5
      have q6 := cell_of hxq 6
      have q7 := cell_of hxq 7
      have q8 := cell_of hxq 8
      have q9 := cell_of hxq 9
      have q10 := cell_of hxq 10
      have q11 := cell_of hxq 11
      have q12 := cell_of hxq 12
      simp only [List.getElem?_toArray, List.getElem?_cons_zero, List.getElem?_cons_succ] at q0 q1 q2 q3 q4 q5 q6 q7 q8 q9 q10 q11 q12
      have hlq := (Array.getElem?_eq_some_iff.1 hxq).1
      go_wp2_with fail
      refine (mright_c ⟨b1, b2, b3, b4, b5, b6, b7, b8, b9, b10, b11, b12, b13⟩ w5).mono ?_
      rintro ev w6 ⟨rfl, hbq⟩
      rw [HRN.out]
      have HS6 := Lib.hid (HS5.out.bel hbq)
      clear hbq
      clear hxq hlq q0 q1 q2 q3 q4 q5 q6 q7 q8 q9 q10 q11 q12
      go_wp2_with fail
      refine (msgRuns A w6 (HSE.out.below HS6.out.below)).mono ?_
      rintro ev w7 ⟨rfl, hbr⟩
      have HBR := Lib.hid (HS6.out.below.trans (hbr.mono HS6.out.below.size))
      clear hbr
      go_wp2_with fail
      go_ret
      exact ⟨rfl, HBR.out⟩
    | true =>
      have HRN := Lib.hid hrn
      have hpn := putM_right hrn
      have hl0 := encM_pos ⟨b1, b2, b3, b4, b5, b6, b7, b8, b9, b10, b11, b12, b13⟩
      clear HU3 HC3
      rw [hpn]
      obtain ⟨nl, hnl⟩ : ∃ nl, (encM ⟨b1, b2, b3, b4, b5, b6, b7, b8, b9, b10, b11, b12, b13⟩).length = nl := ⟨_, rfl⟩
      rw [hnl] at hl0 ⊢
      have g0 : ((nl : Int) == 0) = false := by simp; omega
      have g1 : (nl == 0) = false := by simp; omega
      clear hrn hpn hnl
      have hxq := HS3.out.m
      have q0 := cell_of hxq 0
      have q1 := cell_of hxq 1
      have q2 := cell_of hxq 2
      have q3 := cell_of hxq 3
      have q4 := cell_of hxq 4
      have q5 := cell_of hxq 5
      have q6 := cell_of hxq 6
      have q7 := cell_of hxq 7
      have q8 := cell_of hxq 8
      have q9 := cell_of hxq 9
      have q10 := cell_of hxq 10
      have q11 := cell_of hxq 11
      have q12 := cell_of hxq 12
      simp only [List.getElem?_toArray, List.getElem?_cons_zero, List.getElem?_cons_succ] at q0 q1 q2 q3 q4 q5 q6 q7 q8 q9 q10 q11 q12
      have hlq := (Array.getElem?_eq_some_iff.1 hxq).1
      go_wp2_with fail
      refine (mright_c ⟨a1, a2, a3, a4, a5, a6, a7, a8, a9, a10, a11, a12, a13⟩ w3).mono ?_
      rintro ev w4 ⟨rfl, hbq⟩
      rw [HRM.out]
      have HS4 := Lib.hid (HS3.out.bel hbq)
      clear hbq
      clear hxq hlq q0 q1 q2 q3 q4 q5 q6 q7 q8 q9 q10 q11 q12
      have hxq := HS4.out.m
      have q0 := cell_of hxq 0
      have q1 := cell_of hxq 1
      have q2 := cell_of hxq 2
      have q3 := cell_of hxq 3
      have q4 := cell_of hxq 4
      have q5 := cell_of hxq 5
      have q6 := cell_of hxq 6
      have q7 := cell_of hxq 7
      have q8 := cell_of hxq 8
      have q9 := cell_of hxq 9
      have q10 := cell_of hxq 10
      have q11 := cell_of hxq 11
      have q12 := cell_of hxq 12
      simp only [List.getElem?_toArray, List.getElem?_cons_zero, List.getElem?_cons_succ] at q0 q1 q2 q3 q4 q5 q6 q7 q8 q9 q10 q11 q12
      have hlq := (Array.getElem?_eq_some_iff.1 hxq).1
      go_wp2_with fail
      refine (mright_c ⟨a1, a2, a3, a4, a5, a6, a7, a8, a9, a10, a11, a12, a13⟩ w4).mono ?_
      rintro ev w5 ⟨rfl, hbq⟩
      rw [HRM.out]
      have HS5 := Lib.hid (HS4.out.bel hbq)
      clear hbq
      clear hxq hlq q0 q1 q2 q3 q4 q5 q6 q7 q8 q9 q10 q11 q12
      have hxq := HS5.out.n
      have q0 := cell_of hxq 0
      have q1 := cell_of hxq 1
      have q2 := cell_of hxq 2
      have q3 := cell_of hxq 3
      have q4 := cell_of hxq 4
      have q5 := cell_of hxq 5
      have q6 := cell_of hxq 6
      have q7 := cell_of hxq 7
      have q8 := cell_of hxq 8
      have q9 := cell_of hxq 9
      have q10 := cell_of hxq 10
      have q11 := cell_of hxq 11
      have q12 := cell_of hxq 12
      simp only [List.getElem?_toArray, List.getElem?_cons_zero, List.getElem?_cons_succ] at q0 q1 q2 q3 q4 q5 q6 q7 q8 q9 q10 q11 q12
      have hlq := (Array.getElem?_eq_some_iff.1 hxq).1
      go_wp2_with fail
      refine (mright_c ⟨b1, b2, b3, b4, b5, b6, b7, b8, b9, b10, b11, b12, b13⟩ w5).mono ?_
      rintro ev w6 ⟨rfl, hbq⟩
      rw [HRN.out]
      have HS6 := Lib.hid (HS5.out.bel hbq)
      clear hbq
      clear hxq hlq q0 q1 q2 q3 q4 q5 q6 q7 q8 q9 q10 q11 q12
      go_wp2_with fail
      refine (msgRuns A w6 (HSE.out.below HS6.out.below)).mono ?_
      rintro ev w7 ⟨rfl, hbr⟩
      have HBR := Lib.hid (HS6.out.below.trans (hbr.mono HS6.out.below.size))
      clear hbr
      go_wp2_with fail
      go_ret
      exact ⟨rfl, HBR.out⟩
  | true =>
    have HRM := Lib.hid hrm
    have hpm := putM_right hrm
    have hl0 := encM_pos ⟨a1, a2, a3, a4, a5, a6, a7, a8, a9, a10, a11, a12, a13⟩
    have hlm := encM_len HFM.out
    rw [hpm] at HA3 HC2 ⊢
    obtain ⟨ml, hml⟩ : ∃ ml, (encM ⟨a1, a2, a3, a4, a5, a6, a7, a8, a9, a10, a11, a12, a13⟩).length = ml := ⟨_, rfl⟩
    have HML := Lib.hid hml
    rw [hml] at hl0 hlm ⊢
    have hmc : ml ≤ cp2 := by have := HC2.out; omega
    have g0 : ((ml : Int) == 0) = false := by simp; omega
    have g1 : (ml == 0) = false := by simp; omega
    clear hrm hpm hml HC2
    cases hrn : rightM ⟨b1, b2, b3, b4, b5, b6, b7, b8, b9, b10, b11, b12, b13⟩ with
    | false =>
      have HRN := Lib.hid hrn
      have hpn := putM_wrong hrn
      clear HU3 HC3
      rw [hpn]
      clear hrn hpn
      have hxq := HS3.out.m
      have q0 := cell_of hxq 0
      have q1 := cell_of hxq 1
      have q2 := cell_of hxq 2
      have q3 := cell_of hxq 3
      have q4 := cell_of hxq 4
      have q5 := cell_of hxq 5
      have q6 := cell_of hxq 6
      have q7 := cell_of hxq 7
      have q8 := cell_of hxq 8
      have q9 := cell_of hxq 9
      have q10 := cell_of hxq 10
      have q11 := cell_of hxq 11
      have q12 := cell_of hxq 12
      simp only [List.getElem?_toArray, List.getElem?_cons_zero, List.getElem?_cons_succ] at q0 q1 q2 q3 q4 q5 q6 q7 q8 q9 q10 q11 q12
      have hlq := (Array.getElem?_eq_some_iff.1 hxq).1
      go_wp2_with fail
      refine (mright_c ⟨a1, a2, a3, a4, a5, a6, a7, a8, a9, a10, a11, a12, a13⟩ w3).mono ?_
      rintro ev w4 ⟨rfl, hbq⟩
      rw [HRM.out]
      have HS4 := Lib.hid (HS3.out.bel hbq)
      clear hbq
      clear hxq hlq q0 q1 q2 q3 q4 q5 q6 q7 q8 q9 q10 q11 q12
      have hxq := HS4.out.n
      have q0 := cell_of hxq 0
      have q1 := cell_of hxq 1
      have q2 := cell_of hxq 2
      have q3 := cell_of hxq 3
      have q4 := cell_of hxq 4
      have q5 := cell_of hxq 5
      have q6 := cell_of hxq 6
      have q7 := cell_of hxq 7
      have q8 := cell_of hxq 8
      have q9 := cell_of hxq 9
      have q10 := cell_of hxq 10
      have q11 := cell_of hxq 11
      have q12 := cell_of hxq 12
      simp only [List.getElem?_toArray, List.getElem?_cons_zero, List.getElem?_cons_succ] at q0 q1 q2 q3 q4 q5 q6 q7 q8 q9 q10 q11 q12
      have hlq := (Array.getElem?_eq_some_iff.1 hxq).1
      go_wp2_with fail
      refine (mright_c ⟨b1, b2, b3, b4, b5, b6, b7, b8, b9, b10, b11, b12, b13⟩ w4).mono ?_
      rintro ev w5 ⟨rfl, hbq⟩
      rw [HRN.out]
      have HS5 := Lib.hid (HS4.out.bel hbq)
      clear hbq
      clear hxq hlq q0 q1 q2 q3 q4 q5 q6 q7 q8 q9 q10 q11 q12
      have hxq := HS5.out.m
      have q0 := cell_of hxq 0
      have q1 := cell_of hxq 1
      have q2 := cell_of hxq 2
      have q3 := cell_of hxq 3
      have q4 := cell_of hxq 4
      have q5 := cell_of hxq 5
      have q6 := cell_of hxq 6
      have q7 := cell_of hxq 7
      have q8 := cell_of hxq 8
      have q9 := cell_of hxq 9
      have q10 := cell_of hxq 10
      have q11 := cell_of hxq 11
      have q12 := cell_of hxq 12
      simp only [List.getElem?_toArray, List.getElem?_cons_zero, List.getElem?_cons_succ] at q0 q1 q2 q3 q4 q5 q6 q7 q8 q9 q10 q11 q12
      have hlq := (Array.getElem?_eq_some_iff.1 hxq).1
      go_wp2_with fail
      refine (mright_c ⟨a1, a2, a3, a4, a5, a6, a7, a8, a9, a10, a11, a12, a13⟩ w5).mono ?_
      rintro ev w6 ⟨rfl, hbq⟩
      rw [HRM.out]
      have HS6 := Lib.hid (HS5.out.bel hbq)
      clear hbq
      clear hxq hlq q0 q1 q2 q3 q4 q5 q6 q7 q8 q9 q10 q11 q12
      have hxq := HS6.out.n
      have q0 := cell_of hxq 0
      have q1 := cell_of hxq 1
      have q2 := cell_of hxq 2
      have q3 := cell_of hxq 3
      have q4 := cell_of hxq 4
      have q5 := cell_of hxq 5
      have q6 := cell_of hxq 6
      have q7 := cell_of hxq 7
      have q8 := cell_of hxq 8
      have q9 := cell_of hxq 9
      have q10 := cell_of hxq 10
      have q11 := cell_of hxq 11
      have q12 := cell_of hxq 12
      simp only [List.getElem?_toArray, List.getElem?_cons_zero, List.getElem?_cons_succ] at q0 q1 q2 q3 q4 q5 q6 q7 q8 q9 q10 q11 q12
      have hlq := (Array.getElem?_eq_some_iff.1 hxq).1
      go_wp2_with fail
      refine (mright_c ⟨b1, b2, b3, b4, b5, b6, b7, b8, b9, b10, b11, b12, b13⟩ w6).mono ?_
      rintro ev w7 ⟨rfl, hbq⟩
      rw [HRN.out]
      have HS7 := Lib.hid (HS6.out.bel hbq)
      clear hbq
      clear hxq hlq q0 q1 q2 q3 q4 q5 q6 q7 q8 q9 q10 q11 q12
      go_wp2_with fail
      refine (msgRuns A w7 (HSE.out.below HS7.out.below)).mono ?_
      rintro ev w8 ⟨rfl, hbr⟩
      have HBR := Lib.hid (HS7.out.below.trans (hbr.mono HS7.out.below.size))
      clear hbr
      go_wp2_with fail
      go_ret
      exact ⟨rfl, HBR.out⟩
    | true =>
      have HRN := Lib.hid hrn
      have hpn := putM_right hrn
      have hl1 := encM_pos ⟨b1, b2, b3, b4, b5, b6, b7, b8, b9, b10, b11, b12, b13⟩
      have hln := encM_len HFN.out
      rw [hpn] at HU3 HC3 ⊢
      obtain ⟨nl, hnl⟩ : ∃ nl, (encM ⟨b1, b2, b3, b4, b5, b6, b7, b8, b9, b10, b11, b12, b13⟩).length = nl := ⟨_, rfl⟩
      have HNL := Lib.hid hnl
      rw [hnl] at hl1 hln ⊢
      have hnc : nl ≤ cp3 := by have := HC3.out; omega
      have g2 : ((nl : Int) == 0) = false := by simp; omega
      have g3 : (nl == 0) = false := by simp; omega
      clear hrn hpn hnl HC3
      have HA4 := Lib.hid (show slc w3 1 (.slice ap2 ml cp2) (encM ⟨a1, a2, a3, a4, a5, a6, a7, a8, a9, a10, a11, a12, a13⟩).length (byteV (encM ⟨a1, a2, a3, a4, a5, a6, a7, a8, a9, a10, a11, a12, a13⟩)) from by have h := HA3.out; rw [← HML.out]; exact h)
      have HB4 := Lib.hid (show slc w3 1 (.slice ap3 nl cp3) (encM ⟨b1, b2, b3, b4, b5, b6, b7, b8, b9, b10, b11, b12, b13⟩).length (byteV (encM ⟨b1, b2, b3, b4, b5, b6, b7, b8, b9, b10, b11, b12, b13⟩)) from by have h := HU3.out; rw [← HNL.out]; exact h)
      clear HA3 HU3
      have hxq := HS3.out.m
      have q0 := cell_of hxq 0
      have q1 := cell_of hxq 1
      have q2 := cell_of hxq 2
      have q3 := cell_of hxq 3
      have q4 := cell_of hxq 4
      have q5 := cell_of hxq 5
      have q6 := cell_of hxq 6
      have q7 := cell_of hxq 7
      have q8 := cell_of hxq 8
      have q9 := cell_of hxq 9
      have q10 := cell_of hxq 10
      have q11 := cell_of hxq 11
      have q12 := cell_of hxq 12
      simp only [List.getElem?_toArray, List.getElem?_cons_zero, List.getElem?_cons_succ] at q0 q1 q2 q3 q4 q5 q6 q7 q8 q9 q10 q11 q12
      have hlq := (Array.getElem?_eq_some_iff.1 hxq).1
      go_wp2_with fail
      refine (mright_c ⟨a1, a2, a3, a4, a5, a6, a7, a8, a9, a10, a11, a12, a13⟩ w3).mono ?_
      rintro ev w4 ⟨rfl, hbq⟩
      rw [HRM.out]
      have HS4 := Lib.hid (HS3.out.bel hbq)
      have HA5 := Lib.hid (HA4.out.below hbq)
      have HB5 := Lib.hid (HB4.out.below hbq)
      clear hbq
      clear hxq hlq q0 q1 q2 q3 q4 q5 q6 q7 q8 q9 q10 q11 q12
      have hxq := HS4.out.n
      have q0 := cell_of hxq 0
      have q1 := cell_of hxq 1
      have q2 := cell_of hxq 2
      have q3 := cell_of hxq 3
      have q4 := cell_of hxq 4
      have q5 := cell_of hxq 5
      have q6 := cell_of hxq 6
      have q7 := cell_of hxq 7
      have q8 := cell_of hxq 8
      have q9 := cell_of hxq 9
      have q10 := cell_of hxq 10
      have q11 := cell_of hxq 11
      have q12 := cell_of hxq 12
      simp only [List.getElem?_toArray, List.getElem?_cons_zero, List.getElem?_cons_succ] at q0 q1 q2 q3 q4 q5 q6 q7 q8 q9 q10 q11 q12
      have hlq := (Array.getElem?_eq_some_iff.1 hxq).1
      go_wp2_with fail
      refine (mright_c ⟨b1, b2, b3, b4, b5, b6, b7, b8, b9, b10, b11, b12, b13⟩ w4).mono ?_
      rintro ev w5 ⟨rfl, hbq⟩
      rw [HRN.out]
      have HS5 := Lib.hid (HS4.out.bel hbq)
      have HA6 := Lib.hid (HA5.out.below hbq)
      have HB6 := Lib.hid (HB5.out.below hbq)
      clear hbq
      clear hxq hlq q0 q1 q2 q3 q4 q5 q6 q7 q8 q9 q10 q11 q12
      clear HA4 HB4 HA5 HB5 HS3 HS4
      go_wp2_with (at_builtin; refine wpList_append_slc _ rfl _ _ 22 rfl w5.heap.size 5 i0 (.int .u8 0) 1 1 Tryd.underlying22 HI.out HZ0.out HZ1.out HZ2.out rfl (by decide) _ _ _ rfl (winRow_made7 w5 5 1) _ (encM ⟨a1, a2, a3, a4, a5, a6, a7, a8, a9, a10, a11, a12, a13⟩).length (byteV (encM ⟨a1, a2, a3, a4, a5, a6, a7, a8, a9, a10, a11, a12, a13⟩)) rfl (HA6.out.below ((Below.refl _ _).alloc (Nat.le_refl _) _)) (byteV_one _) (by have := HML.out; have := HNL.out; unfold maxLen; omega) (by have := HML.out; have := HNL.out; omega) (by simp) ?_; intro u2 w7 hown hgrow hat; refine halt7 ?_)
      have HR7 := Lib.hid (show winRow w7 w5.heap.size 5 1 u2 (encM ⟨a1, a2, a3, a4, a5, a6, a7, a8, a9, a10, a11, a12, a13⟩).length (byteV (encM ⟨a1, a2, a3, a4, a5, a6, a7, a8, a9, a10, a11, a12, a13⟩)) by simpa using hown)
      have HB7 := Lib.hid (((Below.refl w5.heap.size w5).alloc (Nat.le_refl _) _).grown hgrow (by simp) (by intro k hk; have hk : some w5.heap.size = some k := hk; exact Nat.le_of_eq (Option.some.inj hk)))
      have HN7 := Lib.hid (HB6.out.below HB7.out)
      obtain ⟨ap7, cp7, rfl⟩ := HR7.out.len
      clear hown hgrow hat
      unfold Halt7
      go_wp2_with (at_builtin; refine wpList_append_slc _ rfl _ _ 22 rfl w5.heap.size 5 i0 (.int .u8 0) 1 1 Tryd.underlying22 HI.out HZ0.out HZ1.out HZ2.out rfl (by decide) _ _ _ rfl HR7.out _ (encM ⟨b1, b2, b3, b4, b5, b6, b7, b8, b9, b10, b11, b12, b13⟩).length (byteV (encM ⟨b1, b2, b3, b4, b5, b6, b7, b8, b9, b10, b11, b12, b13⟩)) rfl HN7.out (byteV_one _) (by have := HML.out; have := HNL.out; unfold maxLen; omega) (by have := HML.out; have := HNL.out; omega) HB7.out.size ?_; intro u2 w8 hown hgrow hat; refine halt7 ?_)
      have HB8 := Lib.hid (HB7.out.grown hgrow HB7.out.size fun q hq => (HR7.out.lt q hq).1)
      have HS8 := Lib.hid (HS5.out.bel HB8.out)
      have HA8 := Lib.hid (HA6.out.below HB8.out)
      have HN8 := Lib.hid (HB6.out.below HB8.out)
      have HAB := Lib.hid (show slc w8 1 u2 (encM ⟨a1, a2, a3, a4, a5, a6, a7, a8, a9, a10, a11, a12, a13⟩ ++ encM ⟨b1, b2, b3, b4, b5, b6, b7, b8, b9, b10, b11, b12, b13⟩).length (byteV (encM ⟨a1, a2, a3, a4, a5, a6, a7, a8, a9, a10, a11, a12, a13⟩ ++ encM ⟨b1, b2, b3, b4, b5, b6, b7, b8, b9, b10, b11, b12, b13⟩)) from by rw [byteV_append, List.length_append]; exact hown.slc)
      clear hown hgrow hat HR7 HB7 HN7 HB8 HA6 HB6 HS5
      unfold Halt7
      have HRR := Lib.hid (And.intro ((rightM_iff _).1 HRM.out) ((rightM_iff _).1 HRN.out))
      go_wp2_with fail
      refine (mget_c A _ (encM ⟨a1, a2, a3, a4, a5, a6, a7, a8, a9, a10, a11, a12, a13⟩ ++ encM ⟨b1, b2, b3, b4, b5, b6, b7, b8, b9, b10, b11, b12, b13⟩) w8 (HSE.out.below HS8.out.below) HAB.out (by have := HML.out; have := HNL.out; rw [List.length_append]; omega) (fun c hc => (List.mem_append.1 hc).elim (encM_byt _ c) (encM_byt _ c))).mono ?_
      rintro ev w9 ⟨rfl, hb9⟩
      rw [tell_tail HRR.out.1 HFM.out (show 0 < (encM ⟨b1, b2, b3, b4, b5, b6, b7, b8, b9, b10, b11, b12, b13⟩).length by have := HNL.out; omega)]
      simp only [zeroM, MsgV.v]
      obtain ⟨E, hE⟩ : ∃ E, ErrT.wrap mtT 0 (.wrap prT (encM ⟨a1, a2, a3, a4, a5, a6, a7, a8, a9, a10, a11, a12, a13⟩).length (.sent 4)) = E := ⟨_, rfl⟩
      rw [hE]
      have HE := Lib.hid hE
      clear hE HAB
      have hb10 : Below w9.heap.size w9 (w9.alloc (.cells #[.int .i64 0, .int .i64 0, .int .i64 0, .int .i64 0, .int .i64 0, .int .i64 0, .int .i64 0, .int .u32 0, .int .u32 0, .int .u32 0, .int .u32 0, .int .u32 0, .bool false] 54)) := (Below.refl _ _).alloc (Nat.le_refl _) _
      have HS10 := Lib.hid ((HS8.out.bel hb9).bel hb10)
      have HA10 := Lib.hid ((HA8.out.below hb9).below hb10)
      have HN10 := Lib.hid ((HN8.out.below hb9).below hb10)
      clear hb9 hb10 HS8 HA8 HN8
      go_upto_region 5 with fail
      generalize w9.alloc (.cells #[.int .i64 0, .int .i64 0, .int .i64 0, .int .i64 0, .int .i64 0, .int .i64 0, .int .i64 0, .int .u32 0, .int .u32 0, .int .u32 0, .int .u32 0, .int .u32 0, .bool false] 54) = w10 at *
      go_cut [85] from 63 to 84 (fun s wx => s = .bool false ∧ Below w10.heap.size w10 wx)
      case first =>
        go_wp2_with fail
        refine (is_c A E 5 mtT 0 w10 (HSE.out.below HS10.out.below) (by rw [← HE.out]; exact ⟨rfl, rfl, show (4 : Nat) < 10 by omega⟩) (by omega) (by omega)).mono ?_
        rintro ev w11 ⟨rfl, hb11⟩
        rw [show isK E 5 mtT 0 = true by rw [← HE.out]; simp [isK, ErrT.code]]
        have HB11 := Lib.hid hb11
        clear hb11
        have hxq := (HS10.out.bel HB11.out).m
        have q0 := cell_of hxq 0
        have q1 := cell_of hxq 1
        have q2 := cell_of hxq 2
        have q3 := cell_of hxq 3
        have q4 := cell_of hxq 4
        have q5 := cell_of hxq 5
        have q6 := cell_of hxq 6
        have q7 := cell_of hxq 7
        have q8 := cell_of hxq 8
        have q9 := cell_of hxq 9
        have q10 := cell_of hxq 10
        have q11 := cell_of hxq 11
        have q12 := cell_of hxq 12
        simp only [List.getElem?_toArray, List.getElem?_cons_zero, List.getElem?_cons_succ] at q0 q1 q2 q3 q4 q5 q6 q7 q8 q9 q10 q11 q12
        have hlq := (Array.getElem?_eq_some_iff.1 hxq).1
        have hxr := (HS10.out.bel HB11.out).n
        have r0 := cell_of hxr 0
        have r1 := cell_of hxr 1
        have r2 := cell_of hxr 2
        have r3 := cell_of hxr 3
        have r4 := cell_of hxr 4
        have r5 := cell_of hxr 5
        have r6 := cell_of hxr 6
        have r7 := cell_of hxr 7
        have r8 := cell_of hxr 8
        have r9 := cell_of hxr 9
        have r10 := cell_of hxr 10
        have r11 := cell_of hxr 11
        have r12 := cell_of hxr 12
        simp only [List.getElem?_toArray, List.getElem?_cons_zero, List.getElem?_cons_succ] at r0 r1 r2 r3 r4 r5 r6 r7 r8 r9 r10 r11 r12
        have hlr := (Array.getElem?_eq_some_iff.1 hxr).1
        have heq := fun w => run_eqMs a1 a2 a3 a4 a5 a6 a7 a8 a9 a10 a11 a12 b1 b2 b3 b4 b5 b6 b7 b8 b9 b10 b11 b12 a13 b13 w
        have HEQ := Lib.hid (eqM_iff ⟨a1, a2, a3, a4, a5, a6, a7, a8, a9, a10, a11, a12, a13⟩ ⟨b1, b2, b3, b4, b5, b6, b7, b8, b9, b10, b11, b12, b13⟩)
        generalize eqM ⟨a1, a2, a3, a4, a5, a6, a7, a8, a9, a10, a11, a12, a13⟩ ⟨b1, b2, b3, b4, b5, b6, b7, b8, b9, b10, b11, b12, b13⟩ = Q at *
        cases Q with
        | true =>
          go_wp2_with fail
          go_meet
          case rel => exact ⟨rfl, HB11.out⟩
        | false =>
          by_cases hle : ml ≤ nl
          · have gle : decide ((ml : Int) ≤ (nl : Int)) = true := by simp; omega
            have gle2 : decide (ml ≤ nl) = true := by simpa using hle
            have gs : decide ((ml : Int) ≥ 0) = true := by simp
            have hmc3 : ml ≤ cp3 := by omega
            have HLE := Lib.hid hle
            clear hle
            go_wp2_with fail
            refine (sameG_c ((encM ⟨b1, b2, b3, b4, b5, b6, b7, b8, b9, b10, b11, b12, b13⟩).take ml) (encM ⟨a1, a2, a3, a4, a5, a6, a7, a8, a9, a10, a11, a12, a13⟩) _ _ w11 (slc_take (HN10.out.below HB11.out) (by have := HNL.out; have := HLE.out; omega)) (HA10.out.below HB11.out) (by have := HNL.out; rw [List.length_take]; omega) (by have := HML.out; omega)).mono ?_
            rintro ev w12 ⟨rfl, hb12⟩
            rw [show decide ((encM ⟨b1, b2, b3, b4, b5, b6, b7, b8, b9, b10, b11, b12, b13⟩).take ml = encM ⟨a1, a2, a3, a4, a5, a6, a7, a8, a9, a10, a11, a12, a13⟩) = false by
              refine decide_eq_false ?_
              rw [← HML.out]
              exact enc_apart HRR.out.1 HFM.out HRR.out.2 HFN.out fun h => by have := HEQ.out.2 h; cases this]
            have HB12 := Lib.hid (HB11.out.trans (hb12.mono HB11.out.size))
            clear hb12
            go_wp2_with fail
            go_meet
            case rel => exact ⟨rfl, HB12.out⟩
          · have gle : decide ((ml : Int) ≤ (nl : Int)) = false := by simp; omega
            have gle2 : decide (ml ≤ nl) = false := by simpa using hle
            clear hle
            go_wp2_with fail
            go_meet
            case rel => exact ⟨rfl, HB11.out⟩
      case rest =>
        obtain ⟨rfl, hb⟩ := hcut
        have HS13 := Lib.hid (HS10.out.bel hb)
        have HA13 := Lib.hid (HA10.out.below hb)
        have HN13 := Lib.hid (HN10.out.below hb)
        clear hb HS10 HA10 HN10
        generalize wc = w13 at *
        go_wp2_with fail
        refine (mget_c A _ (encM ⟨a1, a2, a3, a4, a5, a6, a7, a8, a9, a10, a11, a12, a13⟩) w13 (HSE.out.below HS13.out.below) HA13.out (by have := HML.out; omega) (encM_byt _)).mono ?_
        rintro ev w14 ⟨rfl, hb14⟩
        rw [tell_enc HRR.out.1 HFM.out]
        simp only [MsgV.v]
        rw [show ErrT.nil.val A = .nilIface from rfl]
        have HM15 := Lib.hid (MAt.new w14 ⟨a1, a2, a3, a4, a5, a6, a7, a8, a9, a10, a11, a12, a13⟩)
        have hb15 : Below w14.heap.size w14 (w14.alloc (.cells #[.int .i64 a1, .int .i64 a2, .int .i64 a3, .int .i64 a4, .int .i64 a5, .int .i64 a6, .int .i64 a7, .int .u32 a8, .int .u32 a9, .int .u32 a10, .int .u32 a11, .int .u32 a12, .bool a13] 54)) := (Below.refl _ _).alloc (Nat.le_refl _) _
        have HS15 := Lib.hid ((HS13.out.bel hb14).bel hb15)
        have HN15 := Lib.hid ((HN13.out.below hb14).below hb15)
        clear hb14 hb15 HS13 HA13 HN13
        go_upto_region 8 with fail
        obtain ⟨h9, hh9⟩ : ∃ h, h = w14.heap.size := ⟨_, rfl⟩
        rw [← hh9] at HM15 ⊢
        simp only at HM15
        generalize w14.alloc (.cells #[.int .i64 a1, .int .i64 a2, .int .i64 a3, .int .i64 a4, .int .i64 a5, .int .i64 a6, .int .i64 a7, .int .u32 a8, .int .u32 a9, .int .u32 a10, .int .u32 a11, .int .u32 a12, .bool a13] 54) = w15 at *
        clear hh9
        go_wp2_with fail
        refine (mget_c A _ (encM ⟨b1, b2, b3, b4, b5, b6, b7, b8, b9, b10, b11, b12, b13⟩) w15 (HSE.out.below HS15.out.below) HN15.out (by have := HNL.out; omega) (encM_byt _)).mono ?_
        rintro ev w16 ⟨rfl, hb16⟩
        rw [tell_enc HRR.out.2 HFN.out]
        simp only [MsgV.v]
        rw [show ErrT.nil.val A = .nilIface from rfl]
        have HP17 := Lib.hid (MAt.new w16 ⟨b1, b2, b3, b4, b5, b6, b7, b8, b9, b10, b11, b12, b13⟩)
        have hb17 : Below w16.heap.size w16 (w16.alloc (.cells #[.int .i64 b1, .int .i64 b2, .int .i64 b3, .int .i64 b4, .int .i64 b5, .int .i64 b6, .int .i64 b7, .int .u32 b8, .int .u32 b9, .int .u32 b10, .int .u32 b11, .int .u32 b12, .bool b13] 54)) := (Below.refl _ _).alloc (Nat.le_refl _) _
        have HS17 := Lib.hid ((HS15.out.bel hb16).bel hb17)
        have HM17 := Lib.hid ((HM15.out.below hb16).below hb17)
        clear hb16 hb17 HS15 HN15 HM15
        go_upto_region 9 with fail
        obtain ⟨h11, hh11⟩ : ∃ h, h = w16.heap.size := ⟨_, rfl⟩
        rw [← hh11] at HP17 ⊢
        simp only at HP17
        generalize w16.alloc (.cells #[.int .i64 b1, .int .i64 b2, .int .i64 b3, .int .i64 b4, .int .i64 b5, .int .i64 b6, .int .i64 b7, .int .u32 b8, .int .u32 b9, .int .u32 b10, .int .u32 b11, .int .u32 b12, .bool b13] 54) = w17 at *
        clear hh11
        have hq1 := fun w => run_eqMs a1 a2 a3 a4 a5 a6 a7 a8 a9 a10 a11 a12 a1 a2 a3 a4 a5 a6 a7 a8 a9 a10 a11 a12 a13 a13 w
        rw [show eqM ⟨a1, a2, a3, a4, a5, a6, a7, a8, a9, a10, a11, a12, a13⟩ ⟨a1, a2, a3, a4, a5, a6, a7, a8, a9, a10, a11, a12, a13⟩ = true from (eqM_iff _ _).2 rfl] at hq1
        have hq2 := fun w => run_eqMs b1 b2 b3 b4 b5 b6 b7 b8 b9 b10 b11 b12 b1 b2 b3 b4 b5 b6 b7 b8 b9 b10 b11 b12 b13 b13 w
        rw [show eqM ⟨b1, b2, b3, b4, b5, b6, b7, b8, b9, b10, b11, b12, b13⟩ ⟨b1, b2, b3, b4, b5, b6, b7, b8, b9, b10, b11, b12, b13⟩ = true from (eqM_iff _ _).2 rfl] at hq2
        have hxq := HM17.out
        have q0 := cell_of hxq 0
        have q1 := cell_of hxq 1
        have q2 := cell_of hxq 2
        have q3 := cell_of hxq 3
        have q4 := cell_of hxq 4
        have q5 := cell_of hxq 5
        have q6 := cell_of hxq 6
        have q7 := cell_of hxq 7
        have q8 := cell_of hxq 8
        have q9 := cell_of hxq 9
        have q10 := cell_of hxq 10
        have q11 := cell_of hxq 11
        have q12 := cell_of hxq 12
        simp only [List.getElem?_toArray, List.getElem?_cons_zero, List.getElem?_cons_succ] at q0 q1 q2 q3 q4 q5 q6 q7 q8 q9 q10 q11 q12
        have hlq := (Array.getElem?_eq_some_iff.1 hxq).1
        have hxr := HP17.out
        have r0 := cell_of hxr 0
        have r1 := cell_of hxr 1
        have r2 := cell_of hxr 2
        have r3 := cell_of hxr 3
        have r4 := cell_of hxr 4
        have r5 := cell_of hxr 5
        have r6 := cell_of hxr 6
        have r7 := cell_of hxr 7
        have r8 := cell_of hxr 8
        have r9 := cell_of hxr 9
        have r10 := cell_of hxr 10
        have r11 := cell_of hxr 11
        have r12 := cell_of hxr 12
        simp only [List.getElem?_toArray, List.getElem?_cons_zero, List.getElem?_cons_succ] at r0 r1 r2 r3 r4 r5 r6 r7 r8 r9 r10 r11 r12
        have hlr := (Array.getElem?_eq_some_iff.1 hxr).1
        have hxe := HS17.out.m
        have e0 := cell_of hxe 0
        have e1 := cell_of hxe 1
        have e2 := cell_of hxe 2
        have e3 := cell_of hxe 3
        have e4 := cell_of hxe 4
        have e5 := cell_of hxe 5
        have e6 := cell_of hxe 6
        have e7 := cell_of hxe 7
        have e8 := cell_of hxe 8
        have e9 := cell_of hxe 9
        have e10 := cell_of hxe 10
        have e11 := cell_of hxe 11
        have e12 := cell_of hxe 12
        simp only [List.getElem?_toArray, List.getElem?_cons_zero, List.getElem?_cons_succ] at e0 e1 e2 e3 e4 e5 e6 e7 e8 e9 e10 e11 e12
        have hle := (Array.getElem?_eq_some_iff.1 hxe).1
        have hxf := HS17.out.n
        have f0 := cell_of hxf 0
        have f1 := cell_of hxf 1
        have f2 := cell_of hxf 2
        have f3 := cell_of hxf 3
        have f4 := cell_of hxf 4
        have f5 := cell_of hxf 5
        have f6 := cell_of hxf 6
        have f7 := cell_of hxf 7
        have f8 := cell_of hxf 8
        have f9 := cell_of hxf 9
        have f10 := cell_of hxf 10
        have f11 := cell_of hxf 11
        have f12 := cell_of hxf 12
        simp only [List.getElem?_toArray, List.getElem?_cons_zero, List.getElem?_cons_succ] at f0 f1 f2 f3 f4 f5 f6 f7 f8 f9 f10 f11 f12
        have hlf := (Array.getElem?_eq_some_iff.1 hxf).1
        go_wp2_with fail
        refine (msgRuns A w17 (HSE.out.below HS17.out.below)).mono ?_
        rintro ev w18 ⟨rfl, hbr⟩
        have HBR := Lib.hid (HS17.out.below.trans (hbr.mono HS17.out.below.size))
        clear hbr
        go_wp2_with fail
        go_ret
        exact ⟨rfl, HBR.out⟩

end Go.Proofs.YtpljdbcifaeblaaDoor
