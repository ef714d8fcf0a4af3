/- The fabric's Send. -/
import Derived.Test.YtbefkkefglkleaaDoorFb1
import Derived.Test.YtbefkkefglkleaaDoorFa8
namespace Go.Proofs.YtbefkkefglkleaaDoor
open Go.RowKit Go.Extern.Stop Go.Stop Go.Extern

/-- What waits behind a row that was sent. -/
def addM (F : Plc → List MsgV) : List MsgV → Plc → List MsgV
  | [] => F
  | m :: l => addM (updF F (plM m) (F (plM m) ++ [m])) l
def sendF (cores room : Int) (F : Plc → List MsgV) (l : List MsgV) : Plc → List MsgV := if (fitsE cores room F l).isNil then addM F l else F
def sentN (cores room : Int) (F : Plc → List MsgV) (l : List MsgV) : Nat := if (fitsE cores room F l).isNil then l.length else 0
theorem addM_snoc (m : MsgV) : ∀ (l : List MsgV) (F : Plc → List MsgV), addM F (l ++ [m]) = updF (addM F l) (plM m) (addM F l (plM m) ++ [m])
  | [], _ => rfl
  | x :: l, F => by simp only [List.cons_append, addM, addM_snoc m l]
theorem addM_len (q : Plc) : ∀ (l : List MsgV) (F : Plc → List MsgV), (addM F l q).length = (F q).length + cntP l q
  | [], _ => rfl
  | m :: l, F => by
    simp only [addM, addM_len q l, cntP, updF]
    by_cases h : q = plM m
    · rw [if_pos h, if_pos h.symm, h]; simp; omega
    · rw [if_neg h, if_neg fun e => h e.symm]; omega
theorem fitsE_form (cores room : Int) (F : Plc → List MsgV) (l : List MsgV) : fitsE cores room F l = .nil ∨ ∃ i k : Nat, fitsE cores room F l = .wrap fsT i (.sent k) := by
  unfold fitsE
  split
  · exact .inr ⟨_, _, rfl⟩
  · split
    · exact .inr ⟨_, _, rfl⟩
    · exact .inl rfl

theorem flatM_snoc (l : List MsgV) (m : MsgV) : flatM (l ++ [m]) = flatM l ++ m.cs := by rw [flatM_append]; simp [flatM]

set_option maxRecDepth 100000 in
set_option maxHeartbeats 8000000 in
theorem fsend_c (A : Nat → Addr) (w0 : World) (b r : Nat) (cores room : Int) (E : List (Plc × Value)) (F : Plc → List MsgV) (v : Value) (l : List MsgV) (w : World) (h : FbE w0 b r cores room E F w) (hs : SentAt w A) (hv : slc w 13 v l.length (flatM l)) (hap : 0 < l.length → ∀ q, v.ownBlock = some q → ¬ FbOwn E r q) (hl : l.length ≤ 100000) (hF : ∀ q, (F q).length ≤ 100000) (_hro : 0 ≤ room ∧ room ≤ 100000) :
    Calls Tryd.prog 11 #[.pointer (some ⟨b, 0, none⟩), v] w fun ev w' => ev = .returned ((fitsE cores room F l).val A) ∧ FbPost w0 b r cores room E F (sendF cores room F l) w 0 (sentN cores room F l) w' := by
  have HF := Lib.hid h
  have HSE := Lib.hid hs
  have HLN := Lib.hid hl
  have HFL := Lib.hid hF
  have HV := Lib.hid hv
  have HAP := Lib.hid hap
  obtain ⟨i0, hi0, hi1⟩ := Option.map_eq_some_iff.1 nInfoM
  simp only [Prod.mk.injEq] at hi1
  obtain ⟨hz0, hz1, hz2⟩ := hi1
  have HI := Lib.hid hi0
  have HZ0 := Lib.hid hz0
  have HZ1 := Lib.hid hz1
  have HZ2 := Lib.hid hz2
  clear hi0 hz0 hz1 hz2
  obtain ⟨_, ad, cap, rfl, hel⟩ := hv
  have HEL := Lib.hid hel
  have HRO := Lib.hid _hro
  clear h hs hF hel hap _hro
  go_enter Tryd.func11, Tryd.ntmps11
  go_wp2_with fail
  refine (ffits_c A w0 b r cores room E F _ l w HF.out HSE.out HV.out HLN.out HFL.out HRO.out).mono ?_
  rintro ev w1 ⟨rfl, hb1⟩
  have HB1 := Lib.hid hb1
  clear hb1
  have HSF := Lib.hid (show sendF cores room F l = if (fitsE cores room F l).isNil then addM F l else F from rfl)
  have HSN := Lib.hid (show sentN cores room F l = if (fitsE cores room F l).isNil then l.length else 0 from rfl)
  rcases fitsE_form cores room F l with hfe | ⟨fi, fk, hfe⟩
  · rw [hfe] at HSF HSN ⊢
    rw [show ErrT.nil.val A = .nilIface from rfl]
    have HFE := Lib.hid hfe
    clear hfe
    have HIV := Lib.hid (show ∃ Ei, FbE w0 b r cores room Ei (addM F (l.take 0)) w1 ∧ Mods (FbOwn E r) w w1 ∧ (∀ q, FbOwn Ei r q → FbOwn E r q ∨ w.heap.size ≤ q) ∧ totF Ei (addM F (l.take 0)) = totF E F + 0 from ⟨E, HF.out.bel HB1.out, Mods.of_below HB1.out, fun q hq => .inl hq, rfl⟩)
    go_wp2_with fail
    go_loopw [18] (fun s18 wr => ∃ (i : Nat), i ≤ l.length ∧ s18 = .int .i64 i ∧ ∃ Ei, FbE w0 b r cores room Ei (addM F (l.take i)) wr ∧ Mods (FbOwn E r) w wr ∧ (∀ q, FbOwn Ei r q → FbOwn E r q ∨ w.heap.size ≤ q) ∧ totF Ei (addM F (l.take i)) = totF E F + i) (fun s18 _ => l.length - (intOf s18).toNat)
    case atStart => exact ⟨0, by omega, rfl, HIV.out⟩
    case round =>
      clear HIV HB1
      obtain ⟨i, hi, rfl, Ei, hFi, hMi, hoi, hti⟩ := hrel
      have HFI := Lib.hid hFi
      have HMI := Lib.hid hMi
      have HOI := Lib.hid hoi
      have HTI := Lib.hid hti
      clear hFi hMi hoi hti
      by_cases hin : i < l.length
      · have k1 : decide (i < l.length) = true := by simpa using hin
        have k2 : decide ((i : Int) < (l.length : Int)) = true := by simp; omega
        obtain ⟨m, hm⟩ : ∃ m, l[i]? = some m := ⟨_, List.getElem?_eq_getElem hin⟩
        obtain ⟨g, off, rfl, hg, hc⟩ := HEL.out (by omega)
        have hng : ¬ FbOwn E r g := HAP.out (by omega) g rfl
        obtain ⟨m1, m2, m3, m4, m5, m6, m7, m8, m9, m10, m11, m12, m13⟩ := m
        have HM := Lib.hid hm
        have a0 := (HMI.out.cell (p := ⟨g, _, none⟩) hg hng).trans (hc _ _ (flatM_at hm (c := 0) rfl))
        have a1 := (HMI.out.cell (p := ⟨g, _, none⟩) hg hng).trans (hc _ _ (flatM_at hm (c := 1) rfl))
        have a2 := (HMI.out.cell (p := ⟨g, _, none⟩) hg hng).trans (hc _ _ (flatM_at hm (c := 2) rfl))
        have a3 := (HMI.out.cell (p := ⟨g, _, none⟩) hg hng).trans (hc _ _ (flatM_at hm (c := 3) rfl))
        have a4 := (HMI.out.cell (p := ⟨g, _, none⟩) hg hng).trans (hc _ _ (flatM_at hm (c := 4) rfl))
        have a5 := (HMI.out.cell (p := ⟨g, _, none⟩) hg hng).trans (hc _ _ (flatM_at hm (c := 5) rfl))
        have a6 := (HMI.out.cell (p := ⟨g, _, none⟩) hg hng).trans (hc _ _ (flatM_at hm (c := 6) rfl))
        have a7 := (HMI.out.cell (p := ⟨g, _, none⟩) hg hng).trans (hc _ _ (flatM_at hm (c := 7) rfl))
        have a8 := (HMI.out.cell (p := ⟨g, _, none⟩) hg hng).trans (hc _ _ (flatM_at hm (c := 8) rfl))
        have a9 := (HMI.out.cell (p := ⟨g, _, none⟩) hg hng).trans (hc _ _ (flatM_at hm (c := 9) rfl))
        have a10 := (HMI.out.cell (p := ⟨g, _, none⟩) hg hng).trans (hc _ _ (flatM_at hm (c := 10) rfl))
        have a11 := (HMI.out.cell (p := ⟨g, _, none⟩) hg hng).trans (hc _ _ (flatM_at hm (c := 11) rfl))
        have a12 := (HMI.out.cell (p := ⟨g, _, none⟩) hg hng).trans (hc _ _ (flatM_at hm (c := 12) rfl))
        simp only [Nat.add_zero, ← Nat.add_assoc] at a0 a1 a2 a3 a4 a5 a6 a7 a8 a9 a10 a11 a12
        clear hng
        go_upto_region 7 with fail
        have hb4 : Below wr.heap.size wr (wr.alloc (.cells #[.int .i64 m1, .int .i64 m2, .int .i64 m3, .int .i64 m4, .int .i64 m5, .int .i64 m6, .int .i64 m7, .int .u32 m8, .int .u32 m9, .int .u32 m10, .int .u32 m11, .int .u32 m12, .bool m13] 32)) := (Below.refl _ _).alloc (Nat.le_refl _) _
        have HB4 := Lib.hid hb4
        have HX4 := Lib.hid (heap_alloc_new wr (.cells #[.int .i64 m1, .int .i64 m2, .int .i64 m3, .int .i64 m4, .int .i64 m5, .int .i64 m6, .int .i64 m7, .int .u32 m8, .int .u32 m9, .int .u32 m10, .int .u32 m11, .int .u32 m12, .bool m13] 32))
        have HF4 := Lib.hid (HFI.out.bel hb4)
        obtain ⟨h6, hh6⟩ : ∃ h, h = wr.heap.size := ⟨_, rfl⟩
        have HH6 := Lib.hid (show wr.heap.size ≤ h6 from by omega)
        rw [← hh6] at HX4 ⊢
        generalize wr.alloc (.cells #[.int .i64 m1, .int .i64 m2, .int .i64 m3, .int .i64 m4, .int .i64 m5, .int .i64 m6, .int .i64 m7, .int .u32 m8, .int .u32 m9, .int .u32 m10, .int .u32 m11, .int .u32 m12, .bool m13] 32) = w4 at *
        clear hb4 hh6 hm hc a0 a1 a2 a3 a4 a5 a6 a7 a8 a9 a10 a11 a12
        go_cut [8, 9] from 22 to 32 (fun s8 _ wx => ∃ g : Nat, s8 = .pointer (some ⟨g, 0, none⟩) ∧ wx.heap[g]? = some (.cells #[.int .i64 (plM ⟨m1, m2, m3, m4, m5, m6, m7, m8, m9, m10, m11, m12, m13⟩).1, .int .i64 (plM ⟨m1, m2, m3, m4, m5, m6, m7, m8, m9, m10, m11, m12, m13⟩).2] 70 (0, 0)) ∧ w4.heap.size ≤ g ∧ Below w4.heap.size w4 wx)
        case first =>
          have HG0 := Lib.hid (cell_of HF4.out.blk 0)
          have hlb := HF4.out.lt.1
          have HLB := Lib.hid hlb
          have hxq := HX4.out
          have q0 := cell_of hxq 0
          have q1 := cell_of hxq 1
          have q2 := cell_of hxq 2
          have q3 := cell_of hxq 3
          have q4 := cell_of hxq 4
          have q5 := cell_of hxq 5
          have q6 := cell_of hxq 6
          have q7 := cell_of hxq 7
          have q8 := cell_of hxq 8
          have q9 := cell_of hxq 9
          have q10 := cell_of hxq 10
          have q11 := cell_of hxq 11
          have q12 := cell_of hxq 12
          simp only [List.getElem?_toArray, List.getElem?_cons_zero, List.getElem?_cons_succ] at q0 q1 q2 q3 q4 q5 q6 q7 q8 q9 q10 q11 q12
          have hlq := (Array.getElem?_eq_some_iff.1 hxq).1
          refine wp_region_lexG ⟨[28], []⟩ [(6, 10)] 13 [0, 1, 2, 3, 4, 5, 6, 10, 7, 8, 9, 11, 12] rfl rfl (fun x => Below w4.heap.size w4 x) (by kernel_rfl) (by kernel_rfl) (Below.refl _ _).drew ?_
          intro S hto hof hne
          have y0 : ∀ z : Wd S, z.w.cell? ⟨h6, 0, none⟩ = some (.int .i64 m1) := fun z => ((hto z).cell (p := ⟨h6, 0, none⟩) hlq).trans q0
          have y1 : ∀ z : Wd S, z.w.cell? ⟨h6, 1, none⟩ = some (.int .i64 m2) := fun z => ((hto z).cell (p := ⟨h6, 1, none⟩) hlq).trans q1
          have y2 : ∀ z : Wd S, z.w.cell? ⟨h6, 2, none⟩ = some (.int .i64 m3) := fun z => ((hto z).cell (p := ⟨h6, 2, none⟩) hlq).trans q2
          have y3 : ∀ z : Wd S, z.w.cell? ⟨h6, 3, none⟩ = some (.int .i64 m4) := fun z => ((hto z).cell (p := ⟨h6, 3, none⟩) hlq).trans q3
          have y4 : ∀ z : Wd S, z.w.cell? ⟨h6, 4, none⟩ = some (.int .i64 m5) := fun z => ((hto z).cell (p := ⟨h6, 4, none⟩) hlq).trans q4
          have y5 : ∀ z : Wd S, z.w.cell? ⟨h6, 5, none⟩ = some (.int .i64 m6) := fun z => ((hto z).cell (p := ⟨h6, 5, none⟩) hlq).trans q5
          have y6 : ∀ z : Wd S, z.w.cell? ⟨h6, 6, none⟩ = some (.int .i64 m7) := fun z => ((hto z).cell (p := ⟨h6, 6, none⟩) hlq).trans q6
          have y7 : ∀ z : Wd S, z.w.cell? ⟨h6, 7, none⟩ = some (.int .u32 m8) := fun z => ((hto z).cell (p := ⟨h6, 7, none⟩) hlq).trans q7
          have y8 : ∀ z : Wd S, z.w.cell? ⟨h6, 8, none⟩ = some (.int .u32 m9) := fun z => ((hto z).cell (p := ⟨h6, 8, none⟩) hlq).trans q8
          have y9 : ∀ z : Wd S, z.w.cell? ⟨h6, 9, none⟩ = some (.int .u32 m10) := fun z => ((hto z).cell (p := ⟨h6, 9, none⟩) hlq).trans q9
          have y10 : ∀ z : Wd S, z.w.cell? ⟨h6, 10, none⟩ = some (.int .u32 m11) := fun z => ((hto z).cell (p := ⟨h6, 10, none⟩) hlq).trans q10
          have y11 : ∀ z : Wd S, z.w.cell? ⟨h6, 11, none⟩ = some (.int .u32 m12) := fun z => ((hto z).cell (p := ⟨h6, 11, none⟩) hlq).trans q11
          have y12 : ∀ z : Wd S, z.w.cell? ⟨h6, 12, none⟩ = some (.bool m13) := fun z => ((hto z).cell (p := ⟨h6, 12, none⟩) hlq).trans q12
          have Hof := Lib.hid hof
          clear hto hof hlb hxq hlq q0 q1 q2 q3 q4 q5 q6 q7 q8 q9 q10 q11 q12
          refine lexG_lights 3 (by kernel_rfl) (by kernel_rfl) ?_
          simp only [opsAt, List.take_succ_cons, List.take_zero, List.drop_succ_cons, List.drop_zero, List.filterMap_cons, List.filterMap_nil, List.getElem?_toArray, List.getElem?_cons_succ, List.getElem?_cons_zero]
          change wpQuiet _ _ _ _ (_ :: _ :: _ :: []) _
          repeat (first | go_big_quiet_skip | (go_big_quiet_want; go_big_quiet_op; go_big_quiet_on))
          refine wpQuiet_nil ?_
          refine lexG_pure (o := _) rfl (by kernel_rfl) (by rfl) rfl Tryd.func28 rfl (by kernel_rfl) (fun x => pool_c m1 x.w) (by go_simp) ?_
          simp only [List.getElem_toArray, List.getElem_cons_succ, List.getElem_cons_zero, Act.put, List.setIfInBounds_toArray, List.set_cons_zero, List.set_cons_succ]
          refine lexG_lights 2 (by kernel_rfl) (by kernel_rfl) ?_
          simp only [opsAt, List.take_succ_cons, List.take_zero, List.drop_succ_cons, List.drop_zero, List.filterMap_cons, List.filterMap_nil, List.getElem?_toArray, List.getElem?_cons_succ, List.getElem?_cons_zero]
          change wpQuiet _ _ _ _ (_ :: _ :: []) _
          repeat (first | go_big_quiet_skip | (go_big_quiet_want; go_big_quiet_op; go_big_quiet_on))
          refine wpQuiet_nil ?_
          clear y0 y1 y2 y3 y4 y5 y6 y7 y8 y9 y10 y11 y12
          have HPE := Lib.hid (show plM ⟨m1, m2, m3, m4, m5, m6, m7, m8, m9, m10, m11, m12, m13⟩ = placeP (poolM m1) m2 from rfl)
          have HB0 := Lib.hid (show Below w4.heap.size w4 w4.drew from (Below.refl _ _).drew)
          have hg0 : w4.drew.cell? ⟨b, 0, none⟩ = some (.int .i64 cores) := by have h := HG0.out; simp only [List.getElem?_toArray, List.getElem?_cons_zero] at h; exact h
          have HG := Lib.hid hg0
          clear hg0
          generalize w4.drew = w40 at *
          refine lexG_two (k := 6) (m := 10) (R := [6, 7, 8, 9, 11, 12]) (by kernel_rfl) (by kernel_rfl) (by kernel_rfl) (by kernel_rfl) ?_ ?_
          · skip
            simp only [opsAt, List.filterMap_cons, List.filterMap_nil, List.getElem?_toArray, List.getElem?_cons_succ, List.getElem?_cons_zero]
            change wpList _ _ _ (_ :: []) _ _
            go_wp2_with fail
            refine (at_c b cores (poolM m1) m2 w40 HG.out).mono ?_
            rintro ev w5 ⟨rfl, hb5⟩
            rw [← HPE.out]
            have HB5 := Lib.hid (HB0.out.trans (hb5.mono HB0.out.size))
            clear hb5 HB0 HG
            go_wp2_with fail
            refine lexGQ_more (Hof.out _ HB5.out) ?_
            refine lexG_one (by kernel_rfl) (by kernel_rfl) ?_
            simp only [opsAt, List.filterMap_cons, List.filterMap_nil, List.getElem?_toArray, List.getElem?_cons_succ, List.getElem?_cons_zero]
            change wpList _ _ _ (_ :: []) _ _
            go_wp2_with fail
            obtain ⟨h5, hh5⟩ : ∃ h, h = w5.heap.size := ⟨_, rfl⟩
            have hca : Below w5.heap.size w5 (w5.alloc (.cells #[.int .i64 0, .int .i64 0] 70)) := (Below.refl _ _).alloc (Nat.le_refl _) _
            have hz := heap_alloc_new w5 (.cells #[.int .i64 0, .int .i64 0] 70)
            have HB6 := Lib.hid (HB5.out.trans (hca.mono HB5.out.size))
            have HSZ := Lib.hid (show w4.heap.size ≤ h5 from by rw [hh5]; exact HB5.out.size)
            rw [← hh5] at hz ⊢
            refine lexGQ_more (Hof.out _ HB6.out) ?_
            generalize w5.alloc (.cells #[.int .i64 0, .int .i64 0] 70) = w6 at *
            clear hca hh5
            obtain ⟨kk, hkk⟩ : ∃ kk, plM ⟨m1, m2, m3, m4, m5, m6, m7, m8, m9, m10, m11, m12, m13⟩ = kk := ⟨_, rfl⟩
            rw [hkk]
            have HKK := Lib.hid hkk
            obtain ⟨kp, kc⟩ := kk
            simp only [keyV]
            clear hkk HPE
            refine lexG_lights 3 (by kernel_rfl) (by kernel_rfl) ?_
            simp only [opsAt, List.take_succ_cons, List.take_zero, List.drop_succ_cons, List.drop_zero, List.filterMap_cons, List.filterMap_nil, List.getElem?_toArray, List.getElem?_cons_succ, List.getElem?_cons_zero]
            change wpQuiet _ _ _ _ (_ :: _ :: _ :: []) _
            repeat (first | go_big_quiet_skip | (go_big_quiet_want; go_big_quiet_op; go_big_quiet_on))
            refine wpQuiet_nil ?_
            have z0 := cell_of hz 0
            have z1 := cell_of hz 1
            simp only [List.getElem?_toArray, List.getElem?_cons_zero, List.getElem?_cons_succ] at z0 z1
            have f0 := frozen_of hz 0
            have f1 := frozen_of hz 1
            refine lexG_one (by kernel_rfl) (by kernel_rfl) ?_
            simp only [opsAt, List.filterMap_cons, List.filterMap_nil, List.getElem?_toArray, List.getElem?_cons_succ, List.getElem?_cons_zero]
            change wpList _ _ _ (_ :: []) _ _
            go_wp2_with fail
            have hz7 := set_two' (a := .int .i64 kp) (c := .int .i64 kc) hz
            have HB7 := Lib.hid (show Below w4.heap.size w4 ((w6.setCell ⟨h5, 0, none⟩ (.int .i64 kp)).setCell ⟨h5, 1, none⟩ (.int .i64 kc)) from ((HB6.out.setCell (p := ⟨h5, 0, none⟩) HSZ.out _).setCell (p := ⟨h5, 1, none⟩) HSZ.out _))
            refine lexGQ_more (Hof.out _ HB7.out) ?_
            clear z0 z1 f0 f1 hz
            generalize (w6.setCell ⟨h5, 0, none⟩ (.int .i64 kp)).setCell ⟨h5, 1, none⟩ (.int .i64 kc) = w7 at *
            refine lexG_lights 1 (by kernel_rfl) (by kernel_rfl) ?_
            simp only [opsAt, List.take_succ_cons, List.take_zero, List.drop_succ_cons, List.drop_zero, List.filterMap_cons, List.filterMap_nil, List.getElem?_toArray, List.getElem?_cons_succ, List.getElem?_cons_zero]
            change wpQuiet _ _ _ _ (_ :: []) _
            repeat (first | go_big_quiet_skip | (go_big_quiet_want; go_big_quiet_op; go_big_quiet_on))
            refine wpQuiet_nil ?_
            refine lexG_done ?_
            go_wp2_with fail
            go_meet
            case rel => exact ⟨h5, rfl, by rw [HKK.out]; exact hz7, HSZ.out, HB7.out⟩
          · skip
            simp only [opsAt, List.filterMap_cons, List.filterMap_nil, List.getElem?_toArray, List.getElem?_cons_succ, List.getElem?_cons_zero]
            change wpList _ _ _ (_ :: []) _ _
            go_wp2_with fail
            obtain ⟨h5, hh5⟩ : ∃ h, h = w40.heap.size := ⟨_, rfl⟩
            have hca : Below w40.heap.size w40 (w40.alloc (.cells #[.int .i64 0, .int .i64 0] 70)) := (Below.refl _ _).alloc (Nat.le_refl _) _
            have hz5 := heap_alloc_new w40 (.cells #[.int .i64 0, .int .i64 0] 70)
            have HB5 := Lib.hid (HB0.out.trans (hca.mono HB0.out.size))
            have HG5 := Lib.hid ((hca.cell (p := ⟨b, 0, none⟩) (World.block_lt_of_cell? _ _ HG.out)).trans HG.out)
            have HSZ := Lib.hid (show w4.heap.size ≤ h5 from by rw [hh5]; exact HB0.out.size)
            rw [← hh5] at hz5 ⊢
            have HZ5 := Lib.hid hz5
            refine lexGQ_more (Hof.out _ HB5.out) ?_
            generalize w40.alloc (.cells #[.int .i64 0, .int .i64 0] 70) = w5 at *
            clear hca hh5 HG HB0 hz5
            refine lexG_one (by kernel_rfl) (by kernel_rfl) ?_
            simp only [opsAt, List.filterMap_cons, List.filterMap_nil, List.getElem?_toArray, List.getElem?_cons_succ, List.getElem?_cons_zero]
            change wpList _ _ _ (_ :: []) _ _
            go_wp2_with fail
            refine (at_c b cores (poolM m1) m2 w5 HG5.out).mono ?_
            rintro ev w6 ⟨rfl, hb5⟩
            rw [← HPE.out]
            have HB6 := Lib.hid (HB5.out.trans (hb5.mono HB5.out.size))
            have hz : w6.heap[h5]? = _ := (hb5.block h5 (Array.getElem?_eq_some_iff.1 HZ5.out).1).trans HZ5.out
            clear hb5
            go_wp2_with fail
            refine lexGQ_more (Hof.out _ HB6.out) ?_
            obtain ⟨kk, hkk⟩ : ∃ kk, plM ⟨m1, m2, m3, m4, m5, m6, m7, m8, m9, m10, m11, m12, m13⟩ = kk := ⟨_, rfl⟩
            rw [hkk]
            have HKK := Lib.hid hkk
            obtain ⟨kp, kc⟩ := kk
            simp only [keyV]
            clear hkk HPE
            refine lexG_lights 3 (by kernel_rfl) (by kernel_rfl) ?_
            simp only [opsAt, List.take_succ_cons, List.take_zero, List.drop_succ_cons, List.drop_zero, List.filterMap_cons, List.filterMap_nil, List.getElem?_toArray, List.getElem?_cons_succ, List.getElem?_cons_zero]
            change wpQuiet _ _ _ _ (_ :: _ :: _ :: []) _
            repeat (first | go_big_quiet_skip | (go_big_quiet_want; go_big_quiet_op; go_big_quiet_on))
            refine wpQuiet_nil ?_
            have z0 := cell_of hz 0
            have z1 := cell_of hz 1
            simp only [List.getElem?_toArray, List.getElem?_cons_zero, List.getElem?_cons_succ] at z0 z1
            have f0 := frozen_of hz 0
            have f1 := frozen_of hz 1
            refine lexG_one (by kernel_rfl) (by kernel_rfl) ?_
            simp only [opsAt, List.filterMap_cons, List.filterMap_nil, List.getElem?_toArray, List.getElem?_cons_succ, List.getElem?_cons_zero]
            change wpList _ _ _ (_ :: []) _ _
            go_wp2_with fail
            have hz7 := set_two' (a := .int .i64 kp) (c := .int .i64 kc) hz
            have HB7 := Lib.hid (show Below w4.heap.size w4 ((w6.setCell ⟨h5, 0, none⟩ (.int .i64 kp)).setCell ⟨h5, 1, none⟩ (.int .i64 kc)) from ((HB6.out.setCell (p := ⟨h5, 0, none⟩) HSZ.out _).setCell (p := ⟨h5, 1, none⟩) HSZ.out _))
            refine lexGQ_more (Hof.out _ HB7.out) ?_
            clear z0 z1 f0 f1 hz
            generalize (w6.setCell ⟨h5, 0, none⟩ (.int .i64 kp)).setCell ⟨h5, 1, none⟩ (.int .i64 kc) = w7 at *
            refine lexG_lights 1 (by kernel_rfl) (by kernel_rfl) ?_
            simp only [opsAt, List.take_succ_cons, List.take_zero, List.drop_succ_cons, List.drop_zero, List.filterMap_cons, List.filterMap_nil, List.getElem?_toArray, List.getElem?_cons_succ, List.getElem?_cons_zero]
            change wpQuiet _ _ _ _ (_ :: []) _
            repeat (first | go_big_quiet_skip | (go_big_quiet_want; go_big_quiet_op; go_big_quiet_on))
            refine wpQuiet_nil ?_
            refine lexG_done ?_
            go_wp2_with fail
            go_meet
            case rel => exact ⟨h5, rfl, by rw [HKK.out]; exact hz7, HSZ.out, HB7.out⟩
        case rest =>
          obtain ⟨g8, rfl, hp5, hg8, hb5⟩ := hcut
          generalize wc = w5 at *
          have HB5 := Lib.hid (HB4.out.trans (hb5.mono HB4.out.size))
          have HF5 := Lib.hid (HF4.out.bel hb5)
          have HX5 := Lib.hid ((hb5.block h6 (Array.getElem?_eq_some_iff.1 HX4.out).1).trans HX4.out)
          obtain ⟨kk, hkk⟩ : ∃ kk, plM ⟨m1, m2, m3, m4, m5, m6, m7, m8, m9, m10, m11, m12, m13⟩ = kk := ⟨_, rfl⟩
          have HKK := Lib.hid hkk
          rw [hkk] at hp5
          have HP5 := Lib.hid hp5
          have HG8 := Lib.hid (show wr.heap.size ≤ g8 from Nat.le_trans HB4.out.size hg8)
          clear hp5 hb5 hkk HB4 HX4 HF4 hg8
          obtain ⟨kp, kc⟩ := kk
          go_upto_region 8 with fail
          have hxb := HF5.out.blk
          have g2 := cell_of hxb 2
          have hxp := HP5.out
          have p0 := cell_of hxp 0
          have p1 := cell_of hxp 1
          simp only [List.getElem?_toArray, List.getElem?_cons_zero, List.getElem?_cons_succ] at g2 p0 p1
          have hxq := HX5.out
          have q0 := cell_of hxq 0
          have q1 := cell_of hxq 1
          have q2 := cell_of hxq 2
          have q3 := cell_of hxq 3
          have q4 := cell_of hxq 4
          have q5 := cell_of hxq 5
          have q6 := cell_of hxq 6
          have q7 := cell_of hxq 7
          have q8 := cell_of hxq 8
          have q9 := cell_of hxq 9
          have q10 := cell_of hxq 10
          have q11 := cell_of hxq 11
          have q12 := cell_of hxq 12
          simp only [List.getElem?_toArray, List.getElem?_cons_zero, List.getElem?_cons_succ] at q0 q1 q2 q3 q4 q5 q6 q7 q8 q9 q10 q11 q12
          have hlq := (Array.getElem?_eq_some_iff.1 hxq).1
          have hlb := HF5.out.lt.1
          have hlp := (Array.getElem?_eq_some_iff.1 hxp).1
          refine wp_region_lexN ⟨[], []⟩ (fun n x => if n ≤ 1 then Below w5.heap.size w5 x else True) (by kernel_rfl) (by kernel_rfl) (by rw [if_pos (by omega)]; exact (Below.refl _ _).drew) ?_
          intro S hto hof hne
          have hto0 : ∀ z : Wd (upS S 1), Below w5.heap.size w5 z.w := fun z => by
            obtain ⟨m, hm, hx⟩ := hto 1 z
            rw [if_pos hm] at hx
            exact hx
          have x2 : ∀ z : Wd (upS S 1), z.w.cell? ⟨b, 2, none⟩ = some (.map (some r)) := fun z => ((hto0 z).cell (p := ⟨b, 2, none⟩) hlb).trans g2
          have ya : ∀ z : Wd (upS S 1), z.w.cell? ⟨g8, 0, none⟩ = some (.int .i64 kp) := fun z => ((hto0 z).cell (p := ⟨g8, 0, none⟩) hlp).trans p0
          have za : ∀ z : Wd (upS S 1), z.w.cell? ⟨g8, 1, none⟩ = some (.int .i64 kc) := fun z => ((hto0 z).cell (p := ⟨g8, 1, none⟩) hlp).trans p1
          have y0 : ∀ z : Wd (upS S 1), z.w.cell? ⟨h6, 0, none⟩ = some (.int .i64 m1) := fun z => ((hto0 z).cell (p := ⟨h6, 0, none⟩) hlq).trans q0
          have y1 : ∀ z : Wd (upS S 1), z.w.cell? ⟨h6, 1, none⟩ = some (.int .i64 m2) := fun z => ((hto0 z).cell (p := ⟨h6, 1, none⟩) hlq).trans q1
          have y2 : ∀ z : Wd (upS S 1), z.w.cell? ⟨h6, 2, none⟩ = some (.int .i64 m3) := fun z => ((hto0 z).cell (p := ⟨h6, 2, none⟩) hlq).trans q2
          have y3 : ∀ z : Wd (upS S 1), z.w.cell? ⟨h6, 3, none⟩ = some (.int .i64 m4) := fun z => ((hto0 z).cell (p := ⟨h6, 3, none⟩) hlq).trans q3
          have y4 : ∀ z : Wd (upS S 1), z.w.cell? ⟨h6, 4, none⟩ = some (.int .i64 m5) := fun z => ((hto0 z).cell (p := ⟨h6, 4, none⟩) hlq).trans q4
          have y5 : ∀ z : Wd (upS S 1), z.w.cell? ⟨h6, 5, none⟩ = some (.int .i64 m6) := fun z => ((hto0 z).cell (p := ⟨h6, 5, none⟩) hlq).trans q5
          have y6 : ∀ z : Wd (upS S 1), z.w.cell? ⟨h6, 6, none⟩ = some (.int .i64 m7) := fun z => ((hto0 z).cell (p := ⟨h6, 6, none⟩) hlq).trans q6
          have y7 : ∀ z : Wd (upS S 1), z.w.cell? ⟨h6, 7, none⟩ = some (.int .u32 m8) := fun z => ((hto0 z).cell (p := ⟨h6, 7, none⟩) hlq).trans q7
          have y8 : ∀ z : Wd (upS S 1), z.w.cell? ⟨h6, 8, none⟩ = some (.int .u32 m9) := fun z => ((hto0 z).cell (p := ⟨h6, 8, none⟩) hlq).trans q8
          have y9 : ∀ z : Wd (upS S 1), z.w.cell? ⟨h6, 9, none⟩ = some (.int .u32 m10) := fun z => ((hto0 z).cell (p := ⟨h6, 9, none⟩) hlq).trans q9
          have y10 : ∀ z : Wd (upS S 1), z.w.cell? ⟨h6, 10, none⟩ = some (.int .u32 m11) := fun z => ((hto0 z).cell (p := ⟨h6, 10, none⟩) hlq).trans q10
          have y11 : ∀ z : Wd (upS S 1), z.w.cell? ⟨h6, 11, none⟩ = some (.int .u32 m12) := fun z => ((hto0 z).cell (p := ⟨h6, 11, none⟩) hlq).trans q11
          have y12 : ∀ z : Wd (upS S 1), z.w.cell? ⟨h6, 12, none⟩ = some (.bool m13) := fun z => ((hto0 z).cell (p := ⟨h6, 12, none⟩) hlq).trans q12
          have Hof := Lib.hid hof
          have hne1 := hne 1
          have hne4 := hne 4
          clear hto hto0 hof hne g2 p0 p1 hxb hxp hlb hlp hxq hlq q0 q1 q2 q3 q4 q5 q6 q7 q8 q9 q10 q11 q12
          refine lexM_light 6 1 (by kernel_rfl) (by kernel_rfl) ?_
          simp only [List.take_succ_cons, List.take_zero, List.drop_succ_cons, List.drop_zero]
          repeat (first | go_big_quiet_skip | (go_big_quiet_want; go_big_quiet_op; go_big_quiet_on))
          refine wpQuiet_nil ?_
          clear x2 ya za y0 y1 y2 y3 y4 y5 y6 y7 y8 y9 y10 y11 y12
          refine lexM_heavy (by kernel_rfl) ?_
          go_wp2_with fail
          have hb6 : Below w5.heap.size w5 (w5.alloc (.cells #[.int .i64 m1, .int .i64 m2, .int .i64 m3, .int .i64 m4, .int .i64 m5, .int .i64 m6, .int .i64 m7, .int .u32 m8, .int .u32 m9, .int .u32 m10, .int .u32 m11, .int .u32 m12, .bool m13] 32)).drew := ((Below.refl _ _).alloc (Nat.le_refl _) _).drew
          refine lexMQ_more (Hof.out 1 _ (by rw [if_pos (by omega)]; exact hb6)) ?_
          obtain ⟨h9, hh9⟩ : ∃ h, h = w5.heap.size := ⟨_, rfl⟩
          have hx6 : (w5.alloc (.cells #[.int .i64 m1, .int .i64 m2, .int .i64 m3, .int .i64 m4, .int .i64 m5, .int .i64 m6, .int .i64 m7, .int .u32 m8, .int .u32 m9, .int .u32 m10, .int .u32 m11, .int .u32 m12, .bool m13] 32)).drew.heap[h9]? = some (.cells #[.int .i64 m1, .int .i64 m2, .int .i64 m3, .int .i64 m4, .int .i64 m5, .int .i64 m6, .int .i64 m7, .int .u32 m8, .int .u32 m9, .int .u32 m10, .int .u32 m11, .int .u32 m12, .bool m13] 32 (0, 0)) := by rw [hh9]; exact heap_alloc_new w5 _
          have HN6 := Lib.hid (show w5.heap.size ≤ h9 from by rw [hh9]; exact Nat.le_refl _)
          rw [← hh9]
          have HB6 := Lib.hid hb6
          have HX6 := Lib.hid hx6
          have HF6 := Lib.hid (HF5.out.bel hb6)
          clear hb6 hh9 hx6
          generalize (w5.alloc (.cells #[.int .i64 m1, .int .i64 m2, .int .i64 m3, .int .i64 m4, .int .i64 m5, .int .i64 m6, .int .i64 m7, .int .u32 m8, .int .u32 m9, .int .u32 m10, .int .u32 m11, .int .u32 m12, .bool m13] 32)).drew = w6 at *
          have HLT6 := Lib.hid HF6.out.lt
          obtain ⟨w7, hen, hm7, hM7⟩ := run_entPlc 66 44 nilS (kp, kc) Ei r w6 Tryd.underlying66 (fun w => by kernel_rfl) HF6.out.map
          obtain ⟨vv, hvv⟩ : ∃ vv, getV nilS Ei (kp, kc) = vv := ⟨_, rfl⟩
          have HVV := Lib.hid hvv
          rw [hvv] at hen
          obtain ⟨bn, hbn⟩ : ∃ bn, bn = bornV Ei (kp, kc) 0 := ⟨_, rfl⟩
          have HBN := Lib.hid hbn
          rw [← hbn] at hen
          simp only [keyV] at hen
          have HM7 := Lib.hid hM7
          have HMP7 := Lib.hid hm7
          clear hvv hbn hm7 hM7
          obtain ⟨L, hL⟩ : ∃ L, addM F (l.take i) (kp, kc) = L := ⟨_, rfl⟩
          have HL := Lib.hid hL
          have hrow := HF6.out.rows (kp, kc)
          rw [HVV.out, hL] at hrow
          have hrow7 := hrow.keep fun q hq => HM7.out.block q (hrow.lt q hq).2 (HF6.out.own (kp, kc) q (by rw [HVV.out]; exact hq)).2
          have HR7 := Lib.hid hrow7
          have hll : L.length ≤ 300000 := by
            have h1 := addM_len (kp, kc) (l.take i) F
            rw [hL] at h1
            have h2 := cntP_le (kp, kc) (l.take i)
            have h3 := HFL.out (kp, kc)
            have h4 := HLN.out
            rw [List.length_take] at h2
            omega
          clear hL hrow hrow7
          refine lexM_heavy (by kernel_rfl) ?_
          go_wp2_with fail
          refine lexMQ_more (Hof.out 2 _ (by rw [if_neg (by omega)]; trivial)) ?_
          refine lexM_light 1 4 (by kernel_rfl) (by kernel_rfl) ?_
          simp only [List.take_succ_cons, List.take_zero, List.drop_succ_cons, List.drop_zero]
          repeat (first | go_big_quiet_skip | (go_big_quiet_want; go_big_quiet_op; go_big_quiet_on))
          refine wpQuiet_nil ?_
          clear hen
          have hx7 : w7.heap[h9]? = some (.cells #[.int .i64 m1, .int .i64 m2, .int .i64 m3, .int .i64 m4, .int .i64 m5, .int .i64 m6, .int .i64 m7, .int .u32 m8, .int .u32 m9, .int .u32 m10, .int .u32 m11, .int .u32 m12, .bool m13] 32 (0, 0)) := (HM7.out.block h9 (Array.getElem?_eq_some_iff.1 HX6.out).1 (by have := HLT6.out; have := HN6.out; have := HF5.out.lt; omega)).trans HX6.out
          have hcat : ∀ j u, ((⟨m1, m2, m3, m4, m5, m6, m7, m8, m9, m10, m11, m12, m13⟩ : MsgV)).cs[j]? = some u → w7.cell? ((⟨h9, 0, none⟩ : Addr).add j) = some u := fun j u hj => by
            rw [Addr.add_lit]
            have h1 : w7.cell? ⟨h9, 0 + j, none⟩ = ((⟨m1, m2, m3, m4, m5, m6, m7, m8, m9, m10, m11, m12, m13⟩ : MsgV)).cs.toArray[0 + j]? := cell_of hx7 (0 + j)
            rw [h1, Nat.zero_add, List.getElem?_toArray]
            exact hj
          have HCAT := Lib.hid hcat
          have HSZ7 := Lib.hid (show w0.heap.size ≤ w7.heap.size from Nat.le_trans HF6.out.below.size HM7.out.size)
          clear hcat hx7
          refine lexM_heavy (by kernel_rfl) ?_
          go_wp2_with (at_builtin; refine wpList_append_win _ rfl _ _ 44 rfl w0.heap.size 32 i0 _ 13 80 Tryd.underlying44 HI.out HZ0.out HZ1.out HZ2.out rfl (by decide) vv _ _ rfl HR7.out ⟨h9, 0, none⟩ 1 1 ((⟨m1, m2, m3, m4, m5, m6, m7, m8, m9, m10, m11, m12, m13⟩ : MsgV)).cs rfl rfl HCAT.out (cs_one _) (by omega) (by unfold maxLen; omega) (by omega) HSZ7.out ?_; intro g9 off9 cap9 w8 hrow8 hgr8 hat8 hlt8; refine halt ?_)
          have HR8 := Lib.hid hrow8
          have HG8' := Lib.hid hgr8
          have HAT8 := Lib.hid hat8
          obtain ⟨n1, hn1⟩ : ∃ n1, n1 = L.length + 1 := ⟨_, rfl⟩
          have HN1 := Lib.hid hn1
          rw [← hn1] at HR8
          rw [← hn1]
          clear hrow8 hgr8 hat8 hn1 hlt8
          unfold Halt
          go_wp2_with fail
          refine lexMQ_more (Hof.out 3 _ (by rw [if_neg (by omega)]; trivial)) ?_
          refine lexM_light 1 4 (by kernel_rfl) (by kernel_rfl) ?_
          simp only [List.take_succ_cons, List.take_zero, List.drop_succ_cons, List.drop_zero]
          repeat (first | go_big_quiet_skip | (go_big_quiet_want; go_big_quiet_op; go_big_quiet_on))
          refine wpQuiet_nil ?_
          have hown7 : ∀ q, vv.ownBlock = some q → q ≠ r := fun q hq => (HF6.out.own (kp, kc) q (by rw [HVV.out]; exact hq)).2
          have hM78 : Mods (fun q => vv.ownBlock = some q) w7 w8 := Mods.grown HG8'.out fun q hq => hq
          have hmap8 : MapAt w8 r (putV Ei (kp, kc) (getV nilS Ei (kp, kc))) := (hM78.block r (Array.getElem?_eq_some_iff.1 HMP7.out).1 (fun hq => hown7 r hq rfl)).trans HMP7.out
          obtain ⟨v9, hv9⟩ : ∃ v9, v9 = Value.slice (some ⟨g9, off9, none⟩) n1 cap9 := ⟨_, rfl⟩
          have HV9 := Lib.hid hv9
          rw [← hv9] at HR8 ⊢
          obtain ⟨w9, hst, hm9, hM9⟩ := run_stoPlc 66 nilS (kp, kc) v9 Ei r w8 hmap8
          rw [← HBN.out] at hst
          have HM9 := Lib.hid hM9
          have HMP9 := Lib.hid hm9
          have HM78 := Lib.hid hM78
          clear hmap8 hm9 hM9 hv9 hM78 hown7
          refine lexM_heavy (by kernel_rfl) ?_
          go_wp2_with fail
          refine lexMQ_more (Hof.out 4 _ (by rw [if_neg (by omega)]; trivial)) ?_
          refine lexM_done ?_
          clear Hof hne1 hne4 hst
          have hMM : Mods (fun q => q = r ∨ vv.ownBlock = some q) w6 w9 := by
            have h1 : Mods (fun q => q = r ∨ vv.ownBlock = some q) w6 w7 := ⟨HM7.out.os, HM7.out.tape, HM7.out.output, HM7.out.size, fun k hk hn => HM7.out.block k hk fun e => hn (.inl e)⟩
            have h2 := h1.trans HM78.out fun _ _ h => .inr h
            exact h2.trans HM9.out fun _ _ h => .inl h
          have hr9 : winRow w9 w0.heap.size 32 13 v9 (L ++ [(⟨m1, m2, m3, m4, m5, m6, m7, m8, m9, m10, m11, m12, m13⟩ : MsgV)]).length (flatM (L ++ [(⟨m1, m2, m3, m4, m5, m6, m7, m8, m9, m10, m11, m12, m13⟩ : MsgV)])) := by
            rw [flatM_snoc, List.length_append, List.length_singleton, ← HN1.out]
            refine HR8.out.keep fun q hq => HM9.out.block q (HR8.out.lt q hq).2 fun e => ?_
            have hlt := HLT6.out
            rcases HAT8.out with h1 | h1
            · rw [HV9.out] at hq
              have hq : some g9 = some q := hq
              rw [hq, e] at h1
              exact (HF6.out.own (kp, kc) r (by rw [HVV.out]; exact h1)).2 rfl
            · rw [HV9.out] at hq
              have hq : some g9 = some q := hq
              have := Option.some.inj hq
              have := HM7.out.size
              omega
          have hF9 := HF6.out.put (kp, kc) v9 (L ++ [(⟨m1, m2, m3, m4, m5, m6, m7, m8, m9, m10, m11, m12, m13⟩ : MsgV)]) hMM (fun q hq => hq.elim .inl fun e => .inr (by rw [HVV.out]; exact e)) HMP9.out hr9 (fun q hq => by
            rw [HV9.out] at hq
            have hq : some g9 = some q := hq
            rcases HAT8.out with h1 | h1
            · exact .inl (by rw [HVV.out, h1, hq])
            · have := Option.some.inj hq
              have := HM7.out.size
              exact .inr (by omega))
          have htk : l.take (i + 1) = l.take i ++ [(⟨m1, m2, m3, m4, m5, m6, m7, m8, m9, m10, m11, m12, m13⟩ : MsgV)] := by rw [List.take_add_one, HM.out]; rfl
          have hFA : updF (addM F (l.take i)) (kp, kc) (L ++ [(⟨m1, m2, m3, m4, m5, m6, m7, m8, m9, m10, m11, m12, m13⟩ : MsgV)]) = addM F (l.take (i + 1)) := by rw [htk, addM_snoc, HKK.out, HL.out]
          have HT9 := Lib.hid (HF6.out.tot (kp, kc) v9 (L ++ [(⟨m1, m2, m3, m4, m5, m6, m7, m8, m9, m10, m11, m12, m13⟩ : MsgV)]))
          rw [hFA] at hF9 HT9
          have HF9 := Lib.hid hF9
          have HW6 := Lib.hid (show Mods (FbOwn E r) w w6 from HMI.out.trans (Mods.of_below (S := FbOwn E r) (HB5.out.trans (HB6.out.mono HB5.out.size))) fun _ _ h => h)
          have HW9 := Lib.hid (show Mods (FbOwn E r) w w9 from HW6.out.trans hMM fun q hl hq => by
            have h1 := HOI.out q (hq.elim .inl fun e => .inr ⟨(kp, kc), by rw [HVV.out]; exact e⟩)
            exact h1.elim id fun e => by omega)
          have HO9 := Lib.hid (show ∀ q, FbOwn (putV Ei (kp, kc) v9) r q → FbOwn E r q ∨ w.heap.size ≤ q from fun q hq => by
            rcases hq with e | ⟨k', hk'⟩
            · exact .inl (.inl e)
            · rw [getV_put] at hk'
              by_cases hkk : k' = (kp, kc)
              · rw [if_pos hkk, HV9.out] at hk'
                have hk' : some g9 = some q := hk'
                rcases HAT8.out with h1 | h1
                · exact HOI.out q (.inr ⟨(kp, kc), by rw [HVV.out, h1, hk']⟩)
                · have h2 := Option.some.inj hk'
                  have h3 := HM7.out.size
                  have h4 := HW6.out.size
                  exact .inr (by omega)
              · rw [if_neg hkk] at hk'
                exact HOI.out q (.inr ⟨k', hk'⟩))
          have HTT := Lib.hid (show totF (putV Ei (kp, kc) v9) (addM F (l.take (i + 1))) = totF E F + (i + 1 : Nat) from by
            have h1 := HT9.out
            have h2 := HTI.out
            rw [HL.out] at h1
            simp only [List.length_append, List.length_singleton] at h1
            omega)
          clear hMM hr9 hF9 htk hFA
          go_wp2_with fail
          go_roundw
          case rel => exact ⟨i + 1, by omega, by go_num, _, HF9.out, HW9.out, HO9.out, HTT.out⟩
          case measure => simp [intOf] <;> omega
      · have k1 : decide (i < l.length) = false := by simpa using hin
        have HEQ := Lib.hid (show i = l.length by omega)
        go_wp2_with fail
        go_ret
        rw [HFE.out, HSF.out, HSN.out]
        have e1 : l.take i = l := by rw [HEQ.out]; exact List.take_length
        have h1 := HFI.out
        have h2 := HTI.out
        rw [e1] at h1 h2
        rw [HEQ.out] at h2
        exact ⟨rfl, Ei, h1, HMI.out, HOI.out, by simpa [ErrT.isNil] using h2⟩
  · rw [hfe] at HSF HSN ⊢
    rw [show (ErrT.wrap fsT fi (.sent fk)).val A = .iface 75 (.agg #[.string fsT, .int .i64 fi, .iface 116 (.pointer (some (A fk)))]) from rfl]
    have HFE := Lib.hid hfe
    clear hfe
    go_wp2_with fail
    go_ret
    rw [HFE.out, HSF.out, HSN.out]
    exact ⟨rfl, E, HF.out.bel HB1.out, Mods.of_below HB1.out, fun q hq => .inl hq, rfl⟩

end Go.Proofs.YtbefkkefglkleaaDoor
