/- The fabric's Fits. -/
import Derived.Test.YtbefkkefglkleaaDoorFa9
import Derived.Test.YtbefkkefglkleaaDoorLexN
import Derived.Test.YtbefkkefglkleaaDoorLexP
namespace Go.Proofs.YtbefkkefglkleaaDoor
open Go.RowKit Go.Extern.Stop Go.Stop Go.Extern

theorem set_two' {w : World} {h : Nat} {T : TypeId} {x y a c : Value} (hx : w.heap[h]? = some (.cells #[x, y] T (0, 0))) : ((w.setCell ⟨h, 0, none⟩ a).setCell ⟨h, 1, none⟩ c).heap[h]? = some (.cells #[a, c] T (0, 0)) := by
  have e0 : (w.setCell ⟨h, 0, none⟩ a).heap[h]? = some (.cells #[a, y] T (0, 0)) := (heap_setCell_at (k := 0) hx a).trans rfl
  exact (heap_setCell_at (k := 1) e0 c).trans rfl
set_option maxRecDepth 100000 in
set_option maxHeartbeats 8000000 in
theorem ffits_c (A : Nat → Addr) (w0 : World) (b r : Nat) (cores room : Int) (E : List (Plc × Value)) (F : Plc → List MsgV) (v : Value) (l : List MsgV) (w : World) (h : FbE w0 b r cores room E F w) (hs : SentAt w A) (hv : slc w 13 v l.length (flatM l)) (hl : l.length ≤ 100000) (hF : ∀ q, (F q).length ≤ 100000) (_hro : 0 ≤ room ∧ room ≤ 100000) :
    Calls Tryd.prog 18 #[.pointer (some ⟨b, 0, none⟩), v] w fun ev w' => ev = .returned ((fitsE cores room F l).val A) ∧ Below w.heap.size w w' := by
  have HF := Lib.hid h
  have HSE := Lib.hid hs
  have HLN := Lib.hid hl
  have HFL := Lib.hid hF
  obtain ⟨_, ad, cap, rfl, hel⟩ := hv
  have HEL := Lib.hid hel
  clear h hs hF hel
  go_enter Tryd.func18, Tryd.ntmps18
  go_upto_block 0 with fail
  go_cut [5, 14] from 15 to 34 (fun _ _ wx => (∀ j, j < l.length → badB cores l j = false) ∧ Below w.heap.size w wx)
  case first =>
    go_wp2_with fail
    go_loopw [14] (fun s14 wr => ∃ i : Nat, i ≤ l.length ∧ s14 = .int .i64 i ∧ (∀ j, j < i → badB cores l j = false) ∧ Below w.heap.size w wr) (fun s14 _ => l.length - (intOf s14).toNat)
    case atStart => exact ⟨0, by omega, rfl, fun j hj => absurd hj (by omega), Below.refl _ _⟩
    case round =>
      obtain ⟨i, hi, rfl, hbad, hB⟩ := hrel
      have HBD := Lib.hid hbad
      have HB := Lib.hid hB
      clear hbad hB
      by_cases hin : i < l.length
      · have k1 : decide (i < l.length) = true := by simpa using hin
        have k2 : decide ((i : Int) < (l.length : Int)) = true := by simp; omega
        obtain ⟨m, hm⟩ : ∃ m, l[i]? = some m := ⟨_, List.getElem?_eq_getElem hin⟩
        obtain ⟨g, off, rfl, hg, hc⟩ := HEL.out (by omega)
        obtain ⟨m1, m2, m3, m4, m5, m6, m7, m8, m9, m10, m11, m12, m13⟩ := m
        have HM := Lib.hid hm
        have a0 := (HB.out.cell (p := ⟨g, _, none⟩) hg).trans (hc _ _ (flatM_at hm (c := 0) rfl))
        have a1 := (HB.out.cell (p := ⟨g, _, none⟩) hg).trans (hc _ _ (flatM_at hm (c := 1) rfl))
        have a2 := (HB.out.cell (p := ⟨g, _, none⟩) hg).trans (hc _ _ (flatM_at hm (c := 2) rfl))
        have a3 := (HB.out.cell (p := ⟨g, _, none⟩) hg).trans (hc _ _ (flatM_at hm (c := 3) rfl))
        have a4 := (HB.out.cell (p := ⟨g, _, none⟩) hg).trans (hc _ _ (flatM_at hm (c := 4) rfl))
        have a5 := (HB.out.cell (p := ⟨g, _, none⟩) hg).trans (hc _ _ (flatM_at hm (c := 5) rfl))
        have a6 := (HB.out.cell (p := ⟨g, _, none⟩) hg).trans (hc _ _ (flatM_at hm (c := 6) rfl))
        have a7 := (HB.out.cell (p := ⟨g, _, none⟩) hg).trans (hc _ _ (flatM_at hm (c := 7) rfl))
        have a8 := (HB.out.cell (p := ⟨g, _, none⟩) hg).trans (hc _ _ (flatM_at hm (c := 8) rfl))
        have a9 := (HB.out.cell (p := ⟨g, _, none⟩) hg).trans (hc _ _ (flatM_at hm (c := 9) rfl))
        have a10 := (HB.out.cell (p := ⟨g, _, none⟩) hg).trans (hc _ _ (flatM_at hm (c := 10) rfl))
        have a11 := (HB.out.cell (p := ⟨g, _, none⟩) hg).trans (hc _ _ (flatM_at hm (c := 11) rfl))
        have a12 := (HB.out.cell (p := ⟨g, _, none⟩) hg).trans (hc _ _ (flatM_at hm (c := 12) rfl))
        simp only [Nat.add_zero, ← Nat.add_assoc] at a0 a1 a2 a3 a4 a5 a6 a7 a8 a9 a10 a11 a12
        go_upto_region 4 with fail
        have hb4 : Below wr.heap.size wr (wr.alloc (.cells #[.int .i64 m1, .int .i64 m2, .int .i64 m3, .int .i64 m4, .int .i64 m5, .int .i64 m6, .int .i64 m7, .int .u32 m8, .int .u32 m9, .int .u32 m10, .int .u32 m11, .int .u32 m12, .bool m13] 32)) := (Below.refl _ _).alloc (Nat.le_refl _) _
        have HB4 := Lib.hid (HB.out.trans (hb4.mono HB.out.size))
        have HX4 := Lib.hid (heap_alloc_new wr (.cells #[.int .i64 m1, .int .i64 m2, .int .i64 m3, .int .i64 m4, .int .i64 m5, .int .i64 m6, .int .i64 m7, .int .u32 m8, .int .u32 m9, .int .u32 m10, .int .u32 m11, .int .u32 m12, .bool m13] 32))
        have HF4 := Lib.hid (HF.out.bel (HB.out.trans (hb4.mono HB.out.size)))
        obtain ⟨h6, hh6⟩ : ∃ h, h = wr.heap.size := ⟨_, rfl⟩
        rw [← hh6] at HX4 ⊢
        generalize wr.alloc (.cells #[.int .i64 m1, .int .i64 m2, .int .i64 m3, .int .i64 m4, .int .i64 m5, .int .i64 m6, .int .i64 m7, .int .u32 m8, .int .u32 m9, .int .u32 m10, .int .u32 m11, .int .u32 m12, .bool m13] 32) = w4 at *
        clear hb4 hh6 HB hm hc a0 a1 a2 a3 a4 a5 a6 a7 a8 a9 a10 a11 a12
        have hbb : badB cores l i = (!rightM ⟨m1, m2, m3, m4, m5, m6, m7, m8, m9, m10, m11, m12, m13⟩ || decide (cores ≤ m2)) := by unfold badB; rw [HM.out]; rfl
        have HBB := Lib.hid hbb
        clear hbb
        have g0 := cell_of HF4.out.blk 0
        simp only [List.getElem?_toArray, List.getElem?_cons_zero] at g0
        have hlb := HF4.out.lt.1
        have hxq := HX4.out
        have q0 := cell_of hxq 0
        have q1 := cell_of hxq 1
        have q2 := cell_of hxq 2
        have q3 := cell_of hxq 3
        have q4 := cell_of hxq 4
        have q5 := cell_of hxq 5
        have q6 := cell_of hxq 6
        have q7 := cell_of hxq 7
        have q8 := cell_of hxq 8
        have q9 := cell_of hxq 9
        have q10 := cell_of hxq 10
        have q11 := cell_of hxq 11
        have q12 := cell_of hxq 12
        simp only [List.getElem?_toArray, List.getElem?_cons_zero, List.getElem?_cons_succ] at q0 q1 q2 q3 q4 q5 q6 q7 q8 q9 q10 q11 q12
        have hlq := (Array.getElem?_eq_some_iff.1 hxq).1
        refine wp_region_lexA ⟨[], []⟩ (fun x => Below w4.heap.size w4 x) (by kernel_rfl) (by kernel_rfl) (Below.refl _ _).drew ?_
        intro S hto hof hne
        have x0 : ∀ z : Wd S, z.w.cell? ⟨b, 0, none⟩ = some (.int .i64 cores) := fun z => ((hto z).cell (p := ⟨b, 0, none⟩) hlb).trans g0
        have y0 : ∀ z : Wd S, z.w.cell? ⟨h6, 0, none⟩ = some (.int .i64 m1) := fun z => ((hto z).cell (p := ⟨h6, 0, none⟩) hlq).trans q0
        have y1 : ∀ z : Wd S, z.w.cell? ⟨h6, 1, none⟩ = some (.int .i64 m2) := fun z => ((hto z).cell (p := ⟨h6, 1, none⟩) hlq).trans q1
        have y2 : ∀ z : Wd S, z.w.cell? ⟨h6, 2, none⟩ = some (.int .i64 m3) := fun z => ((hto z).cell (p := ⟨h6, 2, none⟩) hlq).trans q2
        have y3 : ∀ z : Wd S, z.w.cell? ⟨h6, 3, none⟩ = some (.int .i64 m4) := fun z => ((hto z).cell (p := ⟨h6, 3, none⟩) hlq).trans q3
        have y4 : ∀ z : Wd S, z.w.cell? ⟨h6, 4, none⟩ = some (.int .i64 m5) := fun z => ((hto z).cell (p := ⟨h6, 4, none⟩) hlq).trans q4
        have y5 : ∀ z : Wd S, z.w.cell? ⟨h6, 5, none⟩ = some (.int .i64 m6) := fun z => ((hto z).cell (p := ⟨h6, 5, none⟩) hlq).trans q5
        have y6 : ∀ z : Wd S, z.w.cell? ⟨h6, 6, none⟩ = some (.int .i64 m7) := fun z => ((hto z).cell (p := ⟨h6, 6, none⟩) hlq).trans q6
        have y7 : ∀ z : Wd S, z.w.cell? ⟨h6, 7, none⟩ = some (.int .u32 m8) := fun z => ((hto z).cell (p := ⟨h6, 7, none⟩) hlq).trans q7
        have y8 : ∀ z : Wd S, z.w.cell? ⟨h6, 8, none⟩ = some (.int .u32 m9) := fun z => ((hto z).cell (p := ⟨h6, 8, none⟩) hlq).trans q8
        have y9 : ∀ z : Wd S, z.w.cell? ⟨h6, 9, none⟩ = some (.int .u32 m10) := fun z => ((hto z).cell (p := ⟨h6, 9, none⟩) hlq).trans q9
        have y10 : ∀ z : Wd S, z.w.cell? ⟨h6, 10, none⟩ = some (.int .u32 m11) := fun z => ((hto z).cell (p := ⟨h6, 10, none⟩) hlq).trans q10
        have y11 : ∀ z : Wd S, z.w.cell? ⟨h6, 11, none⟩ = some (.int .u32 m12) := fun z => ((hto z).cell (p := ⟨h6, 11, none⟩) hlq).trans q11
        have y12 : ∀ z : Wd S, z.w.cell? ⟨h6, 12, none⟩ = some (.bool m13) := fun z => ((hto z).cell (p := ⟨h6, 12, none⟩) hlq).trans q12
        have Hof := Lib.hid hof
        clear hto hof g0 hlb hxq hlq q0 q1 q2 q3 q4 q5 q6 q7 q8 q9 q10 q11 q12
        refine lexW_light 1 (by kernel_rfl) ?_
        simp only [List.take_succ_cons, List.take_zero, List.drop_succ_cons, List.drop_zero]
        repeat (first | go_big_quiet_skip | (go_big_quiet_want; go_big_quiet_op; go_big_quiet_on))
        refine wpQuiet_nil ?_
        refine lexW_heavy (by kernel_rfl) ?_
        go_wp2_with fail
        refine (mright_c ⟨m1, m2, m3, m4, m5, m6, m7, m8, m9, m10, m11, m12, m13⟩ w4.drew).mono ?_
        rintro ev w5 ⟨rfl, hb5⟩
        have HB5 := Lib.hid ((Below.refl w4.heap.size w4).drew.trans hb5)
        have HB6 := Lib.hid (HB4.out.trans (HB5.out.mono HB4.out.size))
        clear hb5
        go_wp2_with fail
        refine lexQ_more (Hof.out _ HB5.out) ?_
        cases hr : rightM ⟨m1, m2, m3, m4, m5, m6, m7, m8, m9, m10, m11, m12, m13⟩ with
        | false =>
          have HFE := Lib.hid (fits_bad (room := room) (F := F) hin HBD.out (by rw [HBB.out, hr]; rfl))
          clear hr
          refine lexW_light 10 (by kernel_rfl) ?_
          simp only [List.take_succ_cons, List.take_zero, List.drop_succ_cons, List.drop_zero]
          repeat (first | go_big_quiet_skip | (go_big_quiet_want; go_big_quiet_op; go_big_quiet_on))
          refine wpQuiet_nil ?_
          refine lexW_done ?_
          clear x0 y0 y1 y2 y3 y4 y5 y6 y7 y8 y9 y10 y11 y12 Hof hne
          have hga := (HSE.out.below HB6.out).glob 0 (by omega)
          simp only [gnum] at hga
          go_wp2_with fail
          refine (wrap_c A fsT i (.sent 0) w5).mono ?_
          rintro e w' ⟨rfl, hww⟩
          obtain rfl := hww.symm
          rw [show wrapE fsT i (.sent 0) = .wrap fsT i (.sent 0) from rfl]
          go_wp2_with fail
          go_ret
          rw [HFE.out]
          exact ⟨rfl, HB6.out⟩
        | true =>
          by_cases hco : cores ≤ m2
          · have HFE := Lib.hid (fits_bad (room := room) (F := F) hin HBD.out (by rw [HBB.out, hr]; simpa using hco))
            have g9 : decide (cores ≤ m2) = true := by simpa using hco
            clear hr
            refine lexW_light 10 (by kernel_rfl) ?_
            simp only [List.take_succ_cons, List.take_zero, List.drop_succ_cons, List.drop_zero]
            repeat (first | go_big_quiet_skip | (go_big_quiet_want; go_big_quiet_op; go_big_quiet_on))
            refine wpQuiet_nil ?_
            refine lexW_done ?_
            clear x0 y0 y1 y2 y3 y4 y5 y6 y7 y8 y9 y10 y11 y12 Hof hne
            have hga := (HSE.out.below HB6.out).glob 0 (by omega)
            simp only [gnum] at hga
            go_wp2_with fail
            refine (wrap_c A fsT i (.sent 0) w5).mono ?_
            rintro e w' ⟨rfl, hww⟩
            obtain rfl := hww.symm
            rw [show wrapE fsT i (.sent 0) = .wrap fsT i (.sent 0) from rfl]
            go_wp2_with fail
            go_ret
            rw [HFE.out]
            exact ⟨rfl, HB6.out⟩
          · have HNX := Lib.hid (show ∀ j, j < i + 1 → badB cores l j = false from fun j hj => by
              by_cases hji : j = i
              · subst hji
                rw [HBB.out, hr]
                simpa using hco
              · exact HBD.out j (by omega))
            have g9 : decide (cores ≤ m2) = false := by simpa using hco
            clear hr
            refine lexW_light 10 (by kernel_rfl) ?_
            simp only [List.take_succ_cons, List.take_zero, List.drop_succ_cons, List.drop_zero]
            repeat (first | go_big_quiet_skip | (go_big_quiet_want; go_big_quiet_op; go_big_quiet_on))
            refine wpQuiet_nil ?_
            refine lexW_done ?_
            clear x0 y0 y1 y2 y3 y4 y5 y6 y7 y8 y9 y10 y11 y12 Hof hne
            go_wp2_with fail
            go_roundw
            case rel => exact ⟨i + 1, by omega, by go_num, HNX.out, HB6.out⟩
            case measure => simp [intOf] <;> omega
      · have k1 : decide (i < l.length) = false := by simpa using hin
        have HEQ := Lib.hid (show i = l.length by omega)
        go_wp2_with fail
        go_meet
        case rel => exact ⟨by have h := HBD.out; rw [HEQ.out] at h; exact h, HB.out⟩
  case rest =>
    obtain ⟨hnb, hB⟩ := hcut
    have HNB := Lib.hid hnb
    have HB := Lib.hid hB
    clear hnb hB
    generalize wc = w1 at *
    have hmk := fun w => run_newMap 80 w
    go_upto_block 2 with fail
    have hb2 : Below w1.heap.size w1 (w1.alloc (.map #[] 0)) := (Below.refl _ _).alloc (Nat.le_refl _) _
    have HB2 := Lib.hid (HB.out.trans (hb2.mono HB.out.size))
    have HM2 := Lib.hid (show MapAt (w1.alloc (.map #[] 0)) w1.heap.size [] from heap_alloc_new _ _)
    obtain ⟨r2, hr2⟩ : ∃ h, h = w1.heap.size := ⟨_, rfl⟩
    have HR2 := Lib.hid (show w.heap.size ≤ r2 from by have := HB.out.size; omega)
    rw [← hr2] at HM2 ⊢
    generalize w1.alloc (.map #[] 0) = w2 at *
    clear hb2 hr2 hmk HB
    go_wp2_with fail
    go_loopw [38] (fun s38 wr => ∃ (i : Nat) (M : List (Plc × Value)), i ≤ l.length ∧ s38 = .int .i64 i ∧ (∀ j, j < i → fullB room F l j = false) ∧ MapAt wr r2 M ∧ (∀ q, getV (.int .i64 0) M q = .int .i64 (cntP (l.take i) q : Nat)) ∧ Below w.heap.size w wr) (fun s38 _ => l.length - (intOf s38).toNat)
    case atStart => exact ⟨0, [], by omega, rfl, fun j hj => absurd hj (by omega), HM2.out, fun q => rfl, HB2.out⟩
    case round =>
      clear HM2 HB2
      obtain ⟨i, M, hi, rfl, hful, hmp, hcn, hB⟩ := hrel
      have HFU := Lib.hid hful
      have HMP := Lib.hid hmp
      have HCN := Lib.hid hcn
      have HB := Lib.hid hB
      clear hful hmp hcn hB
      by_cases hin : i < l.length
      · have k1 : decide (i < l.length) = true := by simpa using hin
        have k2 : decide ((i : Int) < (l.length : Int)) = true := by simp; omega
        obtain ⟨m, hm⟩ : ∃ m, l[i]? = some m := ⟨_, List.getElem?_eq_getElem hin⟩
        obtain ⟨g, off, rfl, hg, hc⟩ := HEL.out (by omega)
        obtain ⟨m1, m2, m3, m4, m5, m6, m7, m8, m9, m10, m11, m12, m13⟩ := m
        have HM := Lib.hid hm
        have a0 := (HB.out.cell (p := ⟨g, _, none⟩) hg).trans (hc _ _ (flatM_at hm (c := 0) rfl))
        have a1 := (HB.out.cell (p := ⟨g, _, none⟩) hg).trans (hc _ _ (flatM_at hm (c := 1) rfl))
        have a2 := (HB.out.cell (p := ⟨g, _, none⟩) hg).trans (hc _ _ (flatM_at hm (c := 2) rfl))
        have a3 := (HB.out.cell (p := ⟨g, _, none⟩) hg).trans (hc _ _ (flatM_at hm (c := 3) rfl))
        have a4 := (HB.out.cell (p := ⟨g, _, none⟩) hg).trans (hc _ _ (flatM_at hm (c := 4) rfl))
        have a5 := (HB.out.cell (p := ⟨g, _, none⟩) hg).trans (hc _ _ (flatM_at hm (c := 5) rfl))
        have a6 := (HB.out.cell (p := ⟨g, _, none⟩) hg).trans (hc _ _ (flatM_at hm (c := 6) rfl))
        have a7 := (HB.out.cell (p := ⟨g, _, none⟩) hg).trans (hc _ _ (flatM_at hm (c := 7) rfl))
        have a8 := (HB.out.cell (p := ⟨g, _, none⟩) hg).trans (hc _ _ (flatM_at hm (c := 8) rfl))
        have a9 := (HB.out.cell (p := ⟨g, _, none⟩) hg).trans (hc _ _ (flatM_at hm (c := 9) rfl))
        have a10 := (HB.out.cell (p := ⟨g, _, none⟩) hg).trans (hc _ _ (flatM_at hm (c := 10) rfl))
        have a11 := (HB.out.cell (p := ⟨g, _, none⟩) hg).trans (hc _ _ (flatM_at hm (c := 11) rfl))
        have a12 := (HB.out.cell (p := ⟨g, _, none⟩) hg).trans (hc _ _ (flatM_at hm (c := 12) rfl))
        simp only [Nat.add_zero, ← Nat.add_assoc] at a0 a1 a2 a3 a4 a5 a6 a7 a8 a9 a10 a11 a12
        go_upto_region 11 with fail
        have hb4 : Below wr.heap.size wr (wr.alloc (.cells #[.int .i64 m1, .int .i64 m2, .int .i64 m3, .int .i64 m4, .int .i64 m5, .int .i64 m6, .int .i64 m7, .int .u32 m8, .int .u32 m9, .int .u32 m10, .int .u32 m11, .int .u32 m12, .bool m13] 32)) := (Below.refl _ _).alloc (Nat.le_refl _) _
        have HB4 := Lib.hid (HB.out.trans (hb4.mono HB.out.size))
        have HX4 := Lib.hid (heap_alloc_new wr (.cells #[.int .i64 m1, .int .i64 m2, .int .i64 m3, .int .i64 m4, .int .i64 m5, .int .i64 m6, .int .i64 m7, .int .u32 m8, .int .u32 m9, .int .u32 m10, .int .u32 m11, .int .u32 m12, .bool m13] 32))
        have HF4 := Lib.hid (HF.out.bel (HB.out.trans (hb4.mono HB.out.size)))
        have HM4 := Lib.hid (show MapAt (wr.alloc (.cells #[.int .i64 m1, .int .i64 m2, .int .i64 m3, .int .i64 m4, .int .i64 m5, .int .i64 m6, .int .i64 m7, .int .u32 m8, .int .u32 m9, .int .u32 m10, .int .u32 m11, .int .u32 m12, .bool m13] 32)) r2 M from (hb4.block r2 (Array.getElem?_eq_some_iff.1 HMP.out).1).trans HMP.out)
        obtain ⟨h6, hh6⟩ : ∃ h, h = wr.heap.size := ⟨_, rfl⟩
        have HN6 := Lib.hid (show r2 ≠ h6 from by have := (Array.getElem?_eq_some_iff.1 HMP.out).1; omega)
        rw [← hh6] at HX4 ⊢
        generalize wr.alloc (.cells #[.int .i64 m1, .int .i64 m2, .int .i64 m3, .int .i64 m4, .int .i64 m5, .int .i64 m6, .int .i64 m7, .int .u32 m8, .int .u32 m9, .int .u32 m10, .int .u32 m11, .int .u32 m12, .bool m13] 32) = w4 at *
        clear hb4 hh6 HB hm HMP hc a0 a1 a2 a3 a4 a5 a6 a7 a8 a9 a10 a11 a12
        go_cut [10, 11] from 43 to 53 (fun s10 _ wx => ∃ g : Nat, s10 = .pointer (some ⟨g, 0, none⟩) ∧ wx.heap[g]? = some (.cells #[.int .i64 (plM ⟨m1, m2, m3, m4, m5, m6, m7, m8, m9, m10, m11, m12, m13⟩).1, .int .i64 (plM ⟨m1, m2, m3, m4, m5, m6, m7, m8, m9, m10, m11, m12, m13⟩).2] 70 (0, 0)) ∧ Below w4.heap.size w4 wx)
        case first =>
          have HG0 := Lib.hid (cell_of HF4.out.blk 0)
          have hlb := HF4.out.lt.1
          have HLB := Lib.hid hlb
          have hxq := HX4.out
          have q0 := cell_of hxq 0
          have q1 := cell_of hxq 1
          have q2 := cell_of hxq 2
          have q3 := cell_of hxq 3
          have q4 := cell_of hxq 4
          have q5 := cell_of hxq 5
          have q6 := cell_of hxq 6
          have q7 := cell_of hxq 7
          have q8 := cell_of hxq 8
          have q9 := cell_of hxq 9
          have q10 := cell_of hxq 10
          have q11 := cell_of hxq 11
          have q12 := cell_of hxq 12
          simp only [List.getElem?_toArray, List.getElem?_cons_zero, List.getElem?_cons_succ] at q0 q1 q2 q3 q4 q5 q6 q7 q8 q9 q10 q11 q12
          have hlq := (Array.getElem?_eq_some_iff.1 hxq).1
          refine wp_region_lexG ⟨[28], []⟩ [(6, 10)] 13 [0, 1, 2, 3, 4, 5, 6, 10, 7, 8, 9, 11, 12] rfl rfl (fun x => Below w4.heap.size w4 x) (by kernel_rfl) (by kernel_rfl) (Below.refl _ _).drew ?_
          intro S hto hof hne
          have y0 : ∀ z : Wd S, z.w.cell? ⟨h6, 0, none⟩ = some (.int .i64 m1) := fun z => ((hto z).cell (p := ⟨h6, 0, none⟩) hlq).trans q0
          have y1 : ∀ z : Wd S, z.w.cell? ⟨h6, 1, none⟩ = some (.int .i64 m2) := fun z => ((hto z).cell (p := ⟨h6, 1, none⟩) hlq).trans q1
          have y2 : ∀ z : Wd S, z.w.cell? ⟨h6, 2, none⟩ = some (.int .i64 m3) := fun z => ((hto z).cell (p := ⟨h6, 2, none⟩) hlq).trans q2
          have y3 : ∀ z : Wd S, z.w.cell? ⟨h6, 3, none⟩ = some (.int .i64 m4) := fun z => ((hto z).cell (p := ⟨h6, 3, none⟩) hlq).trans q3
          have y4 : ∀ z : Wd S, z.w.cell? ⟨h6, 4, none⟩ = some (.int .i64 m5) := fun z => ((hto z).cell (p := ⟨h6, 4, none⟩) hlq).trans q4
          have y5 : ∀ z : Wd S, z.w.cell? ⟨h6, 5, none⟩ = some (.int .i64 m6) := fun z => ((hto z).cell (p := ⟨h6, 5, none⟩) hlq).trans q5
          have y6 : ∀ z : Wd S, z.w.cell? ⟨h6, 6, none⟩ = some (.int .i64 m7) := fun z => ((hto z).cell (p := ⟨h6, 6, none⟩) hlq).trans q6
          have y7 : ∀ z : Wd S, z.w.cell? ⟨h6, 7, none⟩ = some (.int .u32 m8) := fun z => ((hto z).cell (p := ⟨h6, 7, none⟩) hlq).trans q7
          have y8 : ∀ z : Wd S, z.w.cell? ⟨h6, 8, none⟩ = some (.int .u32 m9) := fun z => ((hto z).cell (p := ⟨h6, 8, none⟩) hlq).trans q8
          have y9 : ∀ z : Wd S, z.w.cell? ⟨h6, 9, none⟩ = some (.int .u32 m10) := fun z => ((hto z).cell (p := ⟨h6, 9, none⟩) hlq).trans q9
          have y10 : ∀ z : Wd S, z.w.cell? ⟨h6, 10, none⟩ = some (.int .u32 m11) := fun z => ((hto z).cell (p := ⟨h6, 10, none⟩) hlq).trans q10
          have y11 : ∀ z : Wd S, z.w.cell? ⟨h6, 11, none⟩ = some (.int .u32 m12) := fun z => ((hto z).cell (p := ⟨h6, 11, none⟩) hlq).trans q11
          have y12 : ∀ z : Wd S, z.w.cell? ⟨h6, 12, none⟩ = some (.bool m13) := fun z => ((hto z).cell (p := ⟨h6, 12, none⟩) hlq).trans q12
          have Hof := Lib.hid hof
          clear hto hof hlb hxq hlq q0 q1 q2 q3 q4 q5 q6 q7 q8 q9 q10 q11 q12
          refine lexG_lights 3 (by kernel_rfl) (by kernel_rfl) ?_
          simp only [opsAt, List.take_succ_cons, List.take_zero, List.drop_succ_cons, List.drop_zero, List.filterMap_cons, List.filterMap_nil, List.getElem?_toArray, List.getElem?_cons_succ, List.getElem?_cons_zero]
          change wpQuiet _ _ _ _ (_ :: _ :: _ :: []) _
          repeat (first | go_big_quiet_skip | (go_big_quiet_want; go_big_quiet_op; go_big_quiet_on))
          refine wpQuiet_nil ?_
          refine lexG_pure (o := _) rfl (by kernel_rfl) (by rfl) rfl Tryd.func28 rfl (by kernel_rfl) (fun x => pool_c m1 x.w) (by go_simp) ?_
          simp only [List.getElem_toArray, List.getElem_cons_succ, List.getElem_cons_zero, Act.put, List.setIfInBounds_toArray, List.set_cons_zero, List.set_cons_succ]
          refine lexG_lights 2 (by kernel_rfl) (by kernel_rfl) ?_
          simp only [opsAt, List.take_succ_cons, List.take_zero, List.drop_succ_cons, List.drop_zero, List.filterMap_cons, List.filterMap_nil, List.getElem?_toArray, List.getElem?_cons_succ, List.getElem?_cons_zero]
          change wpQuiet _ _ _ _ (_ :: _ :: []) _
          repeat (first | go_big_quiet_skip | (go_big_quiet_want; go_big_quiet_op; go_big_quiet_on))
          refine wpQuiet_nil ?_
          clear y0 y1 y2 y3 y4 y5 y6 y7 y8 y9 y10 y11 y12
          have HPE := Lib.hid (show plM ⟨m1, m2, m3, m4, m5, m6, m7, m8, m9, m10, m11, m12, m13⟩ = placeP (poolM m1) m2 from rfl)
          have HB0 := Lib.hid (show Below w4.heap.size w4 w4.drew from (Below.refl _ _).drew)
          have hg0 : w4.drew.cell? ⟨b, 0, none⟩ = some (.int .i64 cores) := by have h := HG0.out; simp only [List.getElem?_toArray, List.getElem?_cons_zero] at h; exact h
          have HG := Lib.hid hg0
          clear hg0
          generalize w4.drew = w40 at *
          refine lexG_two (k := 6) (m := 10) (R := [6, 7, 8, 9, 11, 12]) (by kernel_rfl) (by kernel_rfl) (by kernel_rfl) (by kernel_rfl) ?_ ?_
          · skip
            simp only [opsAt, List.filterMap_cons, List.filterMap_nil, List.getElem?_toArray, List.getElem?_cons_succ, List.getElem?_cons_zero]
            change wpList _ _ _ (_ :: []) _ _
            go_wp2_with fail
            refine (at_c b cores (poolM m1) m2 w40 HG.out).mono ?_
            rintro ev w5 ⟨rfl, hb5⟩
            rw [← HPE.out]
            have HB5 := Lib.hid (HB0.out.trans (hb5.mono HB0.out.size))
            clear hb5 HB0 HG
            go_wp2_with fail
            refine lexGQ_more (Hof.out _ HB5.out) ?_
            refine lexG_one (by kernel_rfl) (by kernel_rfl) ?_
            simp only [opsAt, List.filterMap_cons, List.filterMap_nil, List.getElem?_toArray, List.getElem?_cons_succ, List.getElem?_cons_zero]
            change wpList _ _ _ (_ :: []) _ _
            go_wp2_with fail
            obtain ⟨h5, hh5⟩ : ∃ h, h = w5.heap.size := ⟨_, rfl⟩
            have hca : Below w5.heap.size w5 (w5.alloc (.cells #[.int .i64 0, .int .i64 0] 70)) := (Below.refl _ _).alloc (Nat.le_refl _) _
            have hz := heap_alloc_new w5 (.cells #[.int .i64 0, .int .i64 0] 70)
            have HB6 := Lib.hid (HB5.out.trans (hca.mono HB5.out.size))
            have HSZ := Lib.hid (show w4.heap.size ≤ h5 from by rw [hh5]; exact HB5.out.size)
            rw [← hh5] at hz ⊢
            refine lexGQ_more (Hof.out _ HB6.out) ?_
            generalize w5.alloc (.cells #[.int .i64 0, .int .i64 0] 70) = w6 at *
            clear hca hh5
            obtain ⟨kk, hkk⟩ : ∃ kk, plM ⟨m1, m2, m3, m4, m5, m6, m7, m8, m9, m10, m11, m12, m13⟩ = kk := ⟨_, rfl⟩
            rw [hkk]
            have HKK := Lib.hid hkk
            obtain ⟨kp, kc⟩ := kk
            simp only [keyV]
            clear hkk HPE
            refine lexG_lights 3 (by kernel_rfl) (by kernel_rfl) ?_
            simp only [opsAt, List.take_succ_cons, List.take_zero, List.drop_succ_cons, List.drop_zero, List.filterMap_cons, List.filterMap_nil, List.getElem?_toArray, List.getElem?_cons_succ, List.getElem?_cons_zero]
            change wpQuiet _ _ _ _ (_ :: _ :: _ :: []) _
            repeat (first | go_big_quiet_skip | (go_big_quiet_want; go_big_quiet_op; go_big_quiet_on))
            refine wpQuiet_nil ?_
            have z0 := cell_of hz 0
            have z1 := cell_of hz 1
            simp only [List.getElem?_toArray, List.getElem?_cons_zero, List.getElem?_cons_succ] at z0 z1
            have f0 := frozen_of hz 0
            have f1 := frozen_of hz 1
            refine lexG_one (by kernel_rfl) (by kernel_rfl) ?_
            simp only [opsAt, List.filterMap_cons, List.filterMap_nil, List.getElem?_toArray, List.getElem?_cons_succ, List.getElem?_cons_zero]
            change wpList _ _ _ (_ :: []) _ _
            go_wp2_with fail
            have hz7 := set_two' (a := .int .i64 kp) (c := .int .i64 kc) hz
            have HB7 := Lib.hid (show Below w4.heap.size w4 ((w6.setCell ⟨h5, 0, none⟩ (.int .i64 kp)).setCell ⟨h5, 1, none⟩ (.int .i64 kc)) from ((HB6.out.setCell (p := ⟨h5, 0, none⟩) HSZ.out _).setCell (p := ⟨h5, 1, none⟩) HSZ.out _))
            refine lexGQ_more (Hof.out _ HB7.out) ?_
            clear z0 z1 f0 f1 hz
            generalize (w6.setCell ⟨h5, 0, none⟩ (.int .i64 kp)).setCell ⟨h5, 1, none⟩ (.int .i64 kc) = w7 at *
            refine lexG_lights 1 (by kernel_rfl) (by kernel_rfl) ?_
            simp only [opsAt, List.take_succ_cons, List.take_zero, List.drop_succ_cons, List.drop_zero, List.filterMap_cons, List.filterMap_nil, List.getElem?_toArray, List.getElem?_cons_succ, List.getElem?_cons_zero]
            change wpQuiet _ _ _ _ (_ :: []) _
            repeat (first | go_big_quiet_skip | (go_big_quiet_want; go_big_quiet_op; go_big_quiet_on))
            refine wpQuiet_nil ?_
            refine lexG_done ?_
            go_wp2_with fail
            go_meet
            case rel => exact ⟨h5, rfl, by rw [HKK.out]; exact hz7, HB7.out⟩
          · skip
            simp only [opsAt, List.filterMap_cons, List.filterMap_nil, List.getElem?_toArray, List.getElem?_cons_succ, List.getElem?_cons_zero]
            change wpList _ _ _ (_ :: []) _ _
            go_wp2_with fail
            obtain ⟨h5, hh5⟩ : ∃ h, h = w40.heap.size := ⟨_, rfl⟩
            have hca : Below w40.heap.size w40 (w40.alloc (.cells #[.int .i64 0, .int .i64 0] 70)) := (Below.refl _ _).alloc (Nat.le_refl _) _
            have hz5 := heap_alloc_new w40 (.cells #[.int .i64 0, .int .i64 0] 70)
            have HB5 := Lib.hid (HB0.out.trans (hca.mono HB0.out.size))
            have HG5 := Lib.hid ((hca.cell (p := ⟨b, 0, none⟩) (World.block_lt_of_cell? _ _ HG.out)).trans HG.out)
            have HSZ := Lib.hid (show w4.heap.size ≤ h5 from by rw [hh5]; exact HB0.out.size)
            rw [← hh5] at hz5 ⊢
            have HZ5 := Lib.hid hz5
            refine lexGQ_more (Hof.out _ HB5.out) ?_
            generalize w40.alloc (.cells #[.int .i64 0, .int .i64 0] 70) = w5 at *
            clear hca hh5 HG HB0 hz5
            refine lexG_one (by kernel_rfl) (by kernel_rfl) ?_
            simp only [opsAt, List.filterMap_cons, List.filterMap_nil, List.getElem?_toArray, List.getElem?_cons_succ, List.getElem?_cons_zero]
            change wpList _ _ _ (_ :: []) _ _
            go_wp2_with fail
            refine (at_c b cores (poolM m1) m2 w5 HG5.out).mono ?_
            rintro ev w6 ⟨rfl, hb5⟩
            rw [← HPE.out]
            have HB6 := Lib.hid (HB5.out.trans (hb5.mono HB5.out.size))
            have hz : w6.heap[h5]? = _ := (hb5.block h5 (Array.getElem?_eq_some_iff.1 HZ5.out).1).trans HZ5.out
            clear hb5
            go_wp2_with fail
            refine lexGQ_more (Hof.out _ HB6.out) ?_
            obtain ⟨kk, hkk⟩ : ∃ kk, plM ⟨m1, m2, m3, m4, m5, m6, m7, m8, m9, m10, m11, m12, m13⟩ = kk := ⟨_, rfl⟩
            rw [hkk]
            have HKK := Lib.hid hkk
            obtain ⟨kp, kc⟩ := kk
            simp only [keyV]
            clear hkk HPE
            refine lexG_lights 3 (by kernel_rfl) (by kernel_rfl) ?_
            simp only [opsAt, List.take_succ_cons, List.take_zero, List.drop_succ_cons, List.drop_zero, List.filterMap_cons, List.filterMap_nil, List.getElem?_toArray, List.getElem?_cons_succ, List.getElem?_cons_zero]
            change wpQuiet _ _ _ _ (_ :: _ :: _ :: []) _
            repeat (first | go_big_quiet_skip | (go_big_quiet_want; go_big_quiet_op; go_big_quiet_on))
            refine wpQuiet_nil ?_
            have z0 := cell_of hz 0
            have z1 := cell_of hz 1
            simp only [List.getElem?_toArray, List.getElem?_cons_zero, List.getElem?_cons_succ] at z0 z1
            have f0 := frozen_of hz 0
            have f1 := frozen_of hz 1
            refine lexG_one (by kernel_rfl) (by kernel_rfl) ?_
            simp only [opsAt, List.filterMap_cons, List.filterMap_nil, List.getElem?_toArray, List.getElem?_cons_succ, List.getElem?_cons_zero]
            change wpList _ _ _ (_ :: []) _ _
            go_wp2_with fail
            have hz7 := set_two' (a := .int .i64 kp) (c := .int .i64 kc) hz
            have HB7 := Lib.hid (show Below w4.heap.size w4 ((w6.setCell ⟨h5, 0, none⟩ (.int .i64 kp)).setCell ⟨h5, 1, none⟩ (.int .i64 kc)) from ((HB6.out.setCell (p := ⟨h5, 0, none⟩) HSZ.out _).setCell (p := ⟨h5, 1, none⟩) HSZ.out _))
            refine lexGQ_more (Hof.out _ HB7.out) ?_
            clear z0 z1 f0 f1 hz
            generalize (w6.setCell ⟨h5, 0, none⟩ (.int .i64 kp)).setCell ⟨h5, 1, none⟩ (.int .i64 kc) = w7 at *
            refine lexG_lights 1 (by kernel_rfl) (by kernel_rfl) ?_
            simp only [opsAt, List.take_succ_cons, List.take_zero, List.drop_succ_cons, List.drop_zero, List.filterMap_cons, List.filterMap_nil, List.getElem?_toArray, List.getElem?_cons_succ, List.getElem?_cons_zero]
            change wpQuiet _ _ _ _ (_ :: []) _
            repeat (first | go_big_quiet_skip | (go_big_quiet_want; go_big_quiet_op; go_big_quiet_on))
            refine wpQuiet_nil ?_
            refine lexG_done ?_
            go_wp2_with fail
            go_meet
            case rel => exact ⟨h5, rfl, by rw [HKK.out]; exact hz7, HB7.out⟩
        case rest =>
          obtain ⟨g10, rfl, hp5, hb5⟩ := hcut
          generalize wc = w5 at *
          have HB5 := Lib.hid (HB4.out.trans (hb5.mono HB4.out.size))
          have HF5 := Lib.hid (HF4.out.bel hb5)
          have HM5 := Lib.hid (show MapAt w5 r2 M from (hb5.block r2 (Array.getElem?_eq_some_iff.1 HM4.out).1).trans HM4.out)
          have HN5 := Lib.hid (show r2 ≠ g10 from fun e => by
            have h1 := HM5.out
            unfold MapAt at h1
            rw [e, hp5] at h1
            cases h1)
          have hkk : plM ⟨m1, m2, m3, m4, m5, m6, m7, m8, m9, m10, m11, m12, m13⟩ = plM ⟨m1, m2, m3, m4, m5, m6, m7, m8, m9, m10, m11, m12, m13⟩ := rfl
          obtain ⟨kk, hkk⟩ : ∃ kk, plM ⟨m1, m2, m3, m4, m5, m6, m7, m8, m9, m10, m11, m12, m13⟩ = kk := ⟨_, rfl⟩
          have HKK := Lib.hid hkk
          rw [hkk] at hp5
          have HP5 := Lib.hid hp5
          clear hp5 hb5 hkk HB4 HX4 HF4 HM4
          obtain ⟨kp, kc⟩ := kk
          obtain ⟨cn, hcn⟩ : ∃ cn, cn = cntP (l.take i) (kp, kc) := ⟨_, rfl⟩
          have hgv := HCN.out (kp, kc)
          rw [← hcn] at hgv
          have HGV := Lib.hid hgv
          have hcl : cn ≤ 100000 := by
            have h1 := cntP_le (kp, kc) (l.take i)
            have h2 := HLN.out
            rw [List.length_take] at h1
            omega
          have HCC := Lib.hid hcn
          clear hcn hgv
          go_upto_region 12 with fail
          obtain ⟨w6, hen, hm6, hM6⟩ := run_entPlc 80 3 (.int .i64 0) (kp, kc) M r2 w5.drew Tryd.underlying80 (fun w => by kernel_rfl) (show MapAt w5.drew r2 M from HM5.out)
          rw [HGV.out] at hen hm6
          have hm6' : MapAt w6 r2 (putV M (kp, kc) (getV (.int .i64 0) M (kp, kc))) := by rw [HGV.out]; exact hm6
          obtain ⟨w7, hst, hm7, hM7⟩ := run_stoPlc 80 (.int .i64 0) (kp, kc) (.int .i64 ((cn : Int) + 1)) M r2 w6 hm6'
          have hM56 : Mods (fun q => q = r2) w5 w6 := ((Mods.refl (fun q => q = r2) w5).drew.trans hM6 fun _ _ h => h)
          have HM7 := Lib.hid hm7
          have HMM := Lib.hid (hM56.trans hM7 fun _ _ h => h)
          have HM6 := Lib.hid hm6
          have HM56 := Lib.hid hM56
          obtain ⟨bn, hbn⟩ : ∃ bn, bn = bornV M (kp, kc) 0 := ⟨_, rfl⟩
          rw [← hbn] at hen hst
          simp only [keyV] at hen
          clear hm6 hm6' hM6 hM7 hM56 hm7 hbn
          have hxp := HP5.out
          have p0 := cell_of hxp 0
          have p1 := cell_of hxp 1
          simp only [List.getElem?_toArray, List.getElem?_cons_zero, List.getElem?_cons_succ] at p0 p1
          have hlp := (Array.getElem?_eq_some_iff.1 hxp).1
          refine wp_region_lexN ⟨[], []⟩ (fun n x => if n = 0 then Below w5.heap.size w5 x else if n = 1 then MapAt x r2 (putV M (kp, kc) (.int .i64 (cn : Nat))) else True) (by kernel_rfl) (by kernel_rfl) (by rw [if_pos rfl]; exact (Below.refl _ _).drew) ?_
          intro S hto hof hne
          have hto0 : ∀ z : Wd (upS S 0), Below w5.heap.size w5 z.w := fun z => by
            obtain ⟨m, hm, hx⟩ := hto 0 z
            obtain rfl : m = 0 := by omega
            rw [if_pos rfl] at hx
            exact hx
          have ya : ∀ z : Wd (upS S 0), z.w.cell? ⟨g10, 0, none⟩ = some (.int .i64 kp) := fun z => ((hto0 z).cell (p := ⟨g10, 0, none⟩) hlp).trans p0
          have za : ∀ z : Wd (upS S 0), z.w.cell? ⟨g10, 1, none⟩ = some (.int .i64 kc) := fun z => ((hto0 z).cell (p := ⟨g10, 1, none⟩) hlp).trans p1
          have hlook : ∀ z : Wd (upS S 1), (Instr.lookup 80 (.map (some r2)) (.agg #[.int .i64 kp, .int .i64 kc]) false).run Tryd.prog z.w = .ok (.int .i64 (cn : Nat)) z.w := fun z => by
            obtain ⟨m, hm, hx⟩ := hto 1 z
            by_cases h0 : m = 0
            · rw [if_pos h0] at hx
              have h1 : MapAt z.w r2 M := (hx.block r2 (Array.getElem?_eq_some_iff.1 HM5.out).1).trans HM5.out
              have h2 := run_lookPlc 80 3 (.int .i64 0) (kp, kc) M r2 z.w Tryd.underlying80 (by kernel_rfl) h1
              rw [HGV.out] at h2
              exact h2
            · rw [if_neg h0, if_pos (by omega)] at hx
              have h2 := run_lookPlc 80 3 (.int .i64 0) (kp, kc) _ r2 z.w Tryd.underlying80 (by kernel_rfl) hx
              rw [getV_put, if_pos rfl] at h2
              exact h2
          have Hof := Lib.hid hof
          have hne0 := hne 0
          have hne1 := hne 1
          clear hto hto0 hof hne p0 p1 hxp hlp
          refine lexM_light 2 0 (by kernel_rfl) (by kernel_rfl) ?_
          simp only [List.take_succ_cons, List.take_zero, List.drop_succ_cons, List.drop_zero]
          repeat (first | go_big_quiet_skip | (go_big_quiet_want; go_big_quiet_op; go_big_quiet_on))
          refine wpQuiet_nil ?_
          refine lexM_light 2 1 (by kernel_rfl) (by kernel_rfl) ?_
          simp only [List.take_succ_cons, List.take_zero, List.drop_succ_cons, List.drop_zero]
          repeat (first | go_big_quiet_skip | (go_big_quiet_want; go_big_quiet_op; go_big_quiet_on))
          refine wpQuiet_nil ?_
          refine lexM_heavy (by kernel_rfl) ?_
          go_wp2_with fail
          refine lexMQ_more (Hof.out 1 _ (by rw [if_neg (by omega), if_pos rfl]; exact HM6.out)) ?_
          refine lexM_light 1 1 (by kernel_rfl) (by kernel_rfl) ?_
          simp only [List.take_succ_cons, List.take_zero, List.drop_succ_cons, List.drop_zero]
          repeat (first | go_big_quiet_skip | (go_big_quiet_want; go_big_quiet_op; go_big_quiet_on))
          refine wpQuiet_nil ?_
          refine lexM_heavy (by kernel_rfl) ?_
          go_wp2_with fail
          refine lexMQ_more (Hof.out 2 _ (by rw [if_neg (by omega), if_neg (by omega)]; trivial)) ?_
          refine lexM_done ?_
          clear ya za hlook Hof hne0 hne1 hst hen
          have HB7 := Lib.hid (show Below w.heap.size w w7 from HB5.out.trans (HMM.out.below HB5.out.size fun q (hq : q = r2) => by rw [hq]; exact HR2.out))
          have HF7 := Lib.hid (HF.out.bel HB7.out)
          have HX7 := Lib.hid ((HMM.out.block g10 (Array.getElem?_eq_some_iff.1 HP5.out).1 (fun e => HN5.out e.symm)).trans HP5.out)
          have HCN7 := Lib.hid (show ∀ q, getV (.int .i64 0) (putV M (kp, kc) (.int .i64 ((cn : Int) + 1))) q = .int .i64 (cntP (l.take (i + 1)) q : Nat) from fun q => by
            rw [getV_put, List.take_add_one, HM.out, cntP_append]
            by_cases hq : q = (kp, kc)
            · rw [if_pos hq, hq, ← HCC.out]
              simp [cntP, HKK.out]
            · rw [if_neg hq, HCN.out q]
              have hq' : ¬ (kp, kc) = q := fun e => hq e.symm
              simp [cntP, HKK.out, hq'])
          clear HM5 HF5 HB5 HM6 HM56 HMM HCN
          go_upto_region 13 with fail
          obtain ⟨nF, hnF⟩ : ∃ nF, nF = (F (kp, kc)).length := ⟨_, rfl⟩
          have hnl : nF ≤ 100000 := by rw [hnF]; exact HFL.out (kp, kc)
          obtain ⟨ak, ck, hv⟩ := (HF7.out.rows (kp, kc)).len
          rw [← hnF] at hv
          have HFB := Lib.hid (show fullB room F l i = decide (room < (nF : Int) + ((cn : Int) + 1)) from by
            unfold fullB
            rw [HM.out]
            simp only [HKK.out]
            rw [← hnF, List.take_add_one, HM.out, cntP_append, ← HCC.out]
            simp [cntP, HKK.out])
          clear hnF
          have hxb := HF7.out.blk
          have g1 := cell_of hxb 1
          have g2 := cell_of hxb 2
          have hxp := HX7.out
          have p0 := cell_of hxp 0
          have p1 := cell_of hxp 1
          simp only [List.getElem?_toArray, List.getElem?_cons_zero, List.getElem?_cons_succ] at g1 g2 p0 p1
          have hlb := HF7.out.lt.1
          have hlp := (Array.getElem?_eq_some_iff.1 hxp).1
          refine wp_region_lexA ⟨[], []⟩ (fun x => Below w7.heap.size w7 x) (by kernel_rfl) (by kernel_rfl) (Below.refl _ _).drew ?_
          intro S hto hof hne
          have x1 : ∀ z : Wd S, z.w.cell? ⟨b, 1, none⟩ = some (.int .i64 room) := fun z => ((hto z).cell (p := ⟨b, 1, none⟩) hlb).trans g1
          have x2 : ∀ z : Wd S, z.w.cell? ⟨b, 2, none⟩ = some (.map (some r)) := fun z => ((hto z).cell (p := ⟨b, 2, none⟩) hlb).trans g2
          have y0 : ∀ z : Wd S, z.w.cell? ⟨g10, 0, none⟩ = some (.int .i64 kp) := fun z => ((hto z).cell (p := ⟨g10, 0, none⟩) hlp).trans p0
          have y1 : ∀ z : Wd S, z.w.cell? ⟨g10, 1, none⟩ = some (.int .i64 kc) := fun z => ((hto z).cell (p := ⟨g10, 1, none⟩) hlp).trans p1
          have hlook : ∀ z : Wd S, (Instr.lookup 66 (.map (some r)) (.agg #[.int .i64 kp, .int .i64 kc]) false).run Tryd.prog z.w = .ok (.slice ak nF ck) z.w := fun z => by
            rw [← hv]
            exact run_lookPlc 66 44 nilS (kp, kc) E r z.w Tryd.underlying66 (by kernel_rfl) (HF7.out.bel (hto z)).map
          have hlook2 : ∀ z : Wd S, (Instr.lookup 80 (.map (some r2)) (.agg #[.int .i64 kp, .int .i64 kc]) false).run Tryd.prog z.w = .ok (.int .i64 ((cn : Int) + 1)) z.w := fun z => by
            have h1 : MapAt z.w r2 _ := ((hto z).block r2 (Array.getElem?_eq_some_iff.1 HM7.out).1).trans HM7.out
            have h2 := run_lookPlc 80 3 (.int .i64 0) (kp, kc) _ r2 z.w Tryd.underlying80 (by kernel_rfl) h1
            rw [getV_put, if_pos rfl] at h2
            exact h2
          clear hto hof hv g1 g2 p0 p1 hxb hxp hlb hlp
          refine lexW_light 16 (by kernel_rfl) ?_
          simp only [List.take_succ_cons, List.take_zero, List.drop_succ_cons, List.drop_zero]
          repeat (first | go_big_quiet_skip | (go_big_quiet_want; go_big_quiet_op; go_big_quiet_on))
          refine wpQuiet_nil ?_
          refine lexW_done ?_
          clear x1 x2 y0 y1 hlook hlook2 hne
          by_cases hfu : room < (nF : Int) + ((cn : Int) + 1)
          · have g9 : decide (room < (nF : Int) + ((cn : Int) + 1)) = true := by simpa using hfu
            have HFE := Lib.hid (fits_full (room := room) (F := F) hin HNB.out HFU.out (by rw [HFB.out]; exact g9))
            have hga := ((HSE.out.below HB7.out).below (Below.refl w7.heap.size w7).drew).glob 5 (by omega)
            simp only [gnum] at hga
            go_wp2_with fail
            refine (wrap_c A fsT i (.sent 5) w7.drew).mono ?_
            rintro e w' ⟨rfl, hww⟩
            obtain rfl := hww.symm
            rw [show wrapE fsT i (.sent 5) = .wrap fsT i (.sent 5) from rfl]
            go_wp2_with fail
            go_ret
            rw [HFE.out]
            exact ⟨rfl, HB7.out.drew⟩
          · have g9 : decide (room < (nF : Int) + ((cn : Int) + 1)) = false := by simpa using hfu
            have HNX := Lib.hid (show ∀ j, j < i + 1 → fullB room F l j = false from fun j hj => by
              by_cases hji : j = i
              · rw [hji, HFB.out]; exact g9
              · exact HFU.out j (by omega))
            go_wp2_with fail
            go_roundw
            case rel => exact ⟨i + 1, _, by omega, by go_num, HNX.out, HM7.out, HCN7.out, HB7.out.drew⟩
            case measure => simp [intOf] <;> omega
      · have k1 : decide (i < l.length) = false := by simpa using hin
        have HEQ := Lib.hid (show i = l.length by omega)
        have HFE := Lib.hid (fits_nil (cores := cores) HNB.out (show ∀ j, j < l.length → fullB room F l j = false from by have h := HFU.out; rw [HEQ.out] at h; exact h))
        go_wp2_with fail
        go_ret
        rw [HFE.out]
        exact ⟨rfl, HB.out⟩

end Go.Proofs.YtbefkkefglkleaaDoor
