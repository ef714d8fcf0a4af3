/- The fabric's Peek. -/
import Derived.Test.YtbefkkefglkleaaDoorFa2
import Derived.Test.YtbefkkefglkleaaDoorMgS
namespace Go.Proofs.YtbefkkefglkleaaDoor
open Go.RowKit Go.Extern.Stop Go.Stop Go.Extern

/-- What Peek answers. -/
def peekP (cores : Int) (F : Plc → List MsgV) (p c k : Int) : MsgV × Bool :=
  if placeOk cores p c = true ∧ 0 ≤ k ∧ k < ((F (placeP p c)).length : Int) then (((F (placeP p c))[k.toNat]?).getD zeroM, true) else (zeroM, false)
theorem heap_drew' (w : World) : w.drew.heap = w.heap := rfl

set_option maxRecDepth 100000 in
set_option maxHeartbeats 4000000 in
theorem fpeek_c (w0 : World) (b r : Nat) (cores room p c k : Int) (E : List (Plc × Value)) (F : Plc → List MsgV) (w : World) (h : FbE w0 b r cores room E F w) :
    Calls Tryd.prog 22 #[.pointer (some ⟨b, 0, none⟩), .int .i64 p, .int .i64 c, .int .i64 k] w fun ev w' => ev = .returned (.tuple #[(peekP cores F p c k).1.v, .bool (peekP cores F p c k).2]) ∧ Below w.heap.size w w' := by
  have HF := Lib.hid h
  have HOW := Lib.hid (fun (k : Plc) (g : Nat) (hg : (getV nilS E k).ownBlock = some g) => ((h.rows k).lt g hg).2)
  have HPK := Lib.hid (show peekP cores F p c k = if placeOk cores p c = true ∧ 0 ≤ k ∧ k < ((F (placeP p c)).length : Int) then (((F (placeP p c))[k.toNat]?).getD zeroM, true) else (zeroM, false) from rfl)
  have hba : Below w.heap.size w (w.alloc (.cells #[.int .i64 0, .int .i64 0, .int .i64 0, .int .i64 0, .int .i64 0, .int .i64 0, .int .i64 0, .int .u32 0, .int .u32 0, .int .u32 0, .int .u32 0, .int .u32 0, .bool false] 32)) := (Below.refl _ _).alloc (Nat.le_refl _) _
  have HBA := Lib.hid hba
  have HXA := Lib.hid (heap_alloc_new w (.cells #[.int .i64 0, .int .i64 0, .int .i64 0, .int .i64 0, .int .i64 0, .int .i64 0, .int .i64 0, .int .u32 0, .int .u32 0, .int .u32 0, .int .u32 0, .int .u32 0, .bool false] 32))
  have HFA := Lib.hid (h.bel hba)
  clear h hba
  go_enter Tryd.func22, Tryd.ntmps22
  go_upto_region 1 with fail
  obtain ⟨h8, hh8⟩ : ∃ h, h = w.heap.size := ⟨_, rfl⟩
  have HLE := Lib.hid (show w.heap.size ≤ h8 ∧ b ≠ h8 ∧ r ≠ h8 from by have := HF.out.lt; omega)
  rw [← hh8] at HXA ⊢
  generalize w.alloc (.cells #[.int .i64 0, .int .i64 0, .int .i64 0, .int .i64 0, .int .i64 0, .int .i64 0, .int .i64 0, .int .u32 0, .int .u32 0, .int .u32 0, .int .u32 0, .int .u32 0, .bool false] 32) = wa at *
  clear hh8 HF
  have hxb := HFA.out.blk
  have g0 := cell_of hxb 0
  simp only [List.getElem?_toArray, List.getElem?_cons_zero] at g0
  go_wp2_with fail
  refine (at_c b cores p c wa g0).mono ?_
  rintro ev w1 ⟨rfl, hb1⟩
  generalize hk : placeP p c = kk at *
  obtain ⟨kp, kc⟩ := kk
  simp only [keyV]
  have HF1 := Lib.hid (HFA.out.bel hb1)
  have HB1 := Lib.hid (HBA.out.trans (hb1.mono HBA.out.size))
  have HX1 := Lib.hid ((hb1.block h8 (Array.getElem?_eq_some_iff.1 HXA.out).1).trans HXA.out)
  clear hb1 hk g0 hxb HFA HBA HXA
  go_upto_region 2 with fail
  have hb2 : Below w1.heap.size w1 (w1.alloc (.cells #[.int .i64 kp, .int .i64 kc] 70)) := (Below.refl _ _).alloc (Nat.le_refl _) _
  have HF2 := Lib.hid (HF1.out.bel hb2)
  have HB2 := Lib.hid (HB1.out.trans (hb2.mono HB1.out.size))
  have HX2 := Lib.hid ((hb2.block h8 (Array.getElem?_eq_some_iff.1 HX1.out).1).trans HX1.out)
  have HP2 := Lib.hid (heap_alloc_new w1 (.cells #[.int .i64 kp, .int .i64 kc] 70))
  obtain ⟨h10, hh10⟩ : ∃ h, h = w1.heap.size := ⟨_, rfl⟩
  have HN10 := Lib.hid (show h10 ≠ h8 from by have := (Array.getElem?_eq_some_iff.1 HX1.out).1; omega)
  rw [← hh10] at HP2 ⊢
  generalize w1.alloc (.cells #[.int .i64 kp, .int .i64 kc] 70) = w2 at *
  clear hb2 hh10 HF1 HB1 HX1
  obtain ⟨ok, hok⟩ : ∃ ok, placeOk cores p c = ok := ⟨_, rfl⟩
  rw [hok] at HPK ⊢
  clear hok
  have hxb := HF2.out.blk
  have g2 := cell_of hxb 2
  have hxp := HP2.out
  have p0 := cell_of hxp 0
  have p1 := cell_of hxp 1
  simp only [List.getElem?_toArray, List.getElem?_cons_zero, List.getElem?_cons_succ] at g2 p0 p1
  have hlb := HF2.out.lt.1
  have hlp := (Array.getElem?_eq_some_iff.1 hxp).1
  have HVW := Lib.hid (HF2.out.rows (kp, kc))
  generalize hvv : getV nilS E (kp, kc) = vv at *
  have HVV := Lib.hid hvv
  generalize F (kp, kc) = L at *
  clear hvv
  obtain ⟨ak, ck, hv⟩ := HVW.out.len
  subst hv
  have hlook : ∀ z : World, MapAt z r E → (Instr.lookup 66 (.map (some r)) (.agg #[.int .i64 kp, .int .i64 kc]) false).run Tryd.prog z = .ok (.slice ak L.length ck) z := fun z hz => by
    rw [← HVV.out]
    exact run_lookPlc 66 44 nilS (kp, kc) E r z Tryd.underlying66 (by kernel_rfl) hz
  have HLK := Lib.hid hlook
  clear hlook
  by_cases hgood : ok = true ∧ 0 ≤ k ∧ k < (L.length : Int)
  · have HPG := Lib.hid (show peekP cores F p c k = (((L)[k.toNat]?).getD zeroM, true) from by rw [HPK.out]; exact if_pos hgood)
    obtain ⟨rfl, hk0, hk1⟩ := hgood
    have g0 : decide (k < 0) = false := by simp; omega
    have g1 : decide ((L.length : Int) ≤ k) = false := by simp; omega
    refine wp_region_lexA ⟨[], []⟩ (fun x => Below w2.heap.size w2 x) (by kernel_rfl) (by kernel_rfl) (Below.refl _ _).drew ?_
    intro S hto hof hne
    have x2 : ∀ z : Wd S, z.w.cell? ⟨b, 2, none⟩ = some (.map (some r)) := fun z => ((hto z).cell (p := ⟨b, 2, none⟩) hlb).trans g2
    have y0 : ∀ z : Wd S, z.w.cell? ⟨h10, 0, none⟩ = some (.int .i64 kp) := fun z => ((hto z).cell (p := ⟨h10, 0, none⟩) hlp).trans p0
    have y1 : ∀ z : Wd S, z.w.cell? ⟨h10, 1, none⟩ = some (.int .i64 kc) := fun z => ((hto z).cell (p := ⟨h10, 1, none⟩) hlp).trans p1
    have hlook : ∀ z : Wd S, (Instr.lookup 66 (.map (some r)) (.agg #[.int .i64 kp, .int .i64 kc]) false).run Tryd.prog z.w = .ok (.slice ak L.length ck) z.w := fun z => HLK.out z.w (HF2.out.bel (hto z)).map
    clear hto hof
    refine lexW_light 17 (by kernel_rfl) ?_
    simp only [List.take_succ_cons, List.take_zero, List.drop_succ_cons, List.drop_zero]
    repeat (first | go_big_quiet_skip | (go_big_quiet_want; go_big_quiet_op; go_big_quiet_on))
    refine wpQuiet_nil ?_
    refine lexW_done ?_
    clear x2 y0 y1 hlook hne
    have HX3 := Lib.hid (show w2.drew.heap[h8]? = some (.cells #[.int .i64 0, .int .i64 0, .int .i64 0, .int .i64 0, .int .i64 0, .int .i64 0, .int .i64 0, .int .u32 0, .int .u32 0, .int .u32 0, .int .u32 0, .int .u32 0, .bool false] 32 (0, 0)) from HX2.out)
    have HB3 := Lib.hid (show Below w.heap.size w w2.drew from HB2.out.drew)
    have HF3 := Lib.hid (show FbE w0 b r cores room E F w2.drew from HF2.out.bel (Below.refl _ _).drew)
    have HP3 := Lib.hid (show w2.drew.heap[h10]? = some (.cells #[.int .i64 kp, .int .i64 kc] 70 (0, 0)) from HP2.out)
    have HV3 := Lib.hid (show winRow w2.drew w0.heap.size 32 13 (.slice ak L.length ck) L.length (flatM L) from HVW.out.below (Below.refl _ _).drew)
    clear g2 p0 p1 hlb hlp hxb hxp HVW
    generalize w2.drew = w3 at *
    obtain ⟨kn, rfl⟩ := Int.eq_ofNat_of_zero_le hk0
    have hkl : kn < L.length := by omega
    obtain ⟨m, hm⟩ : ∃ m, L[kn]? = some m := ⟨_, List.getElem?_eq_getElem hkl⟩
    have HTL := Lib.hid (show peekP cores F p c (kn : Int) = (m, true) from by rw [HPG.out, Int.toNat_natCast, hm]; rfl)
    obtain ⟨g, off, ck', hvf, hcap, hlo, hgl, hc⟩ := HV3.out.form (by omega)
    simp only [Value.slice.injEq, true_and] at hvf
    obtain ⟨rfl, rfl⟩ := hvf
    obtain ⟨m1, m2, m3, m4, m5, m6, m7, m8, m9, m10, m11, m12, m13⟩ := m
    have a0 := hc _ _ (flatM_at hm (c := 0) rfl)
    have a1 := hc _ _ (flatM_at hm (c := 1) rfl)
    have a2 := hc _ _ (flatM_at hm (c := 2) rfl)
    have a3 := hc _ _ (flatM_at hm (c := 3) rfl)
    have a4 := hc _ _ (flatM_at hm (c := 4) rfl)
    have a5 := hc _ _ (flatM_at hm (c := 5) rfl)
    have a6 := hc _ _ (flatM_at hm (c := 6) rfl)
    have a7 := hc _ _ (flatM_at hm (c := 7) rfl)
    have a8 := hc _ _ (flatM_at hm (c := 8) rfl)
    have a9 := hc _ _ (flatM_at hm (c := 9) rfl)
    have a10 := hc _ _ (flatM_at hm (c := 10) rfl)
    have a11 := hc _ _ (flatM_at hm (c := 11) rfl)
    have a12 := hc _ _ (flatM_at hm (c := 12) rfl)
    simp only [Nat.add_zero, ← Nat.add_assoc] at a0 a1 a2 a3 a4 a5 a6 a7 a8 a9 a10 a11 a12
    have hng : g ≠ h8 := by
      have h1 := HOW.out (kp, kc) g (by rw [HVV.out]; rfl)
      have h2 := HLE.out.1
      omega
    go_upto_region 4 with fail
    have hxb := HF3.out.blk
    have g2 := cell_of hxb 2
    have hxp := HP3.out
    have p0 := cell_of hxp 0
    have p1 := cell_of hxp 1
    simp only [List.getElem?_toArray, List.getElem?_cons_zero, List.getElem?_cons_succ] at g2 p0 p1
    have hlb := HF3.out.lt.1
    have hlp := (Array.getElem?_eq_some_iff.1 hxp).1
    have hlm := HF3.out.lt.2
    have nb : b ≠ h8 := HLE.out.2.1
    have nr : r ≠ h8 := HLE.out.2.2
    have np : h10 ≠ h8 := HN10.out
    have hxr := HX3.out
    have r0 := cell_of hxr 0
    have r1 := cell_of hxr 1
    have r2 := cell_of hxr 2
    have r3 := cell_of hxr 3
    have r4 := cell_of hxr 4
    have r5 := cell_of hxr 5
    have r6 := cell_of hxr 6
    have r7 := cell_of hxr 7
    have r8 := cell_of hxr 8
    have r9 := cell_of hxr 9
    have r10 := cell_of hxr 10
    have r11 := cell_of hxr 11
    have r12 := cell_of hxr 12
    simp only [List.getElem?_toArray, List.getElem?_cons_zero, List.getElem?_cons_succ] at r0 r1 r2 r3 r4 r5 r6 r7 r8 r9 r10 r11 r12
    have hlr := (Array.getElem?_eq_some_iff.1 hxr).1
    have zr0 := frozen_of hxr 0
    have zr1 := frozen_of hxr 1
    have zr2 := frozen_of hxr 2
    have zr3 := frozen_of hxr 3
    have zr4 := frozen_of hxr 4
    have zr5 := frozen_of hxr 5
    have zr6 := frozen_of hxr 6
    have zr7 := frozen_of hxr 7
    have zr8 := frozen_of hxr 8
    have zr9 := frozen_of hxr 9
    have zr10 := frozen_of hxr 10
    have zr11 := frozen_of hxr 11
    have zr12 := frozen_of hxr 12
    refine wp_region_lexA ⟨[], []⟩ (fun x => Mods (fun q => q = h8) w3 x) (by kernel_rfl) (by kernel_rfl) (Mods.refl _ _).drew ?_
    intro S hto hof hne
    have x2 : ∀ z : Wd S, z.w.cell? ⟨b, 2, none⟩ = some (.map (some r)) := fun z => ((hto z).cell (p := ⟨b, 2, none⟩) hlb nb).trans g2
    have y0 : ∀ z : Wd S, z.w.cell? ⟨h10, 0, none⟩ = some (.int .i64 kp) := fun z => ((hto z).cell (p := ⟨h10, 0, none⟩) hlp np).trans p0
    have y1 : ∀ z : Wd S, z.w.cell? ⟨h10, 1, none⟩ = some (.int .i64 kc) := fun z => ((hto z).cell (p := ⟨h10, 1, none⟩) hlp np).trans p1
    have b0 : ∀ z : Wd S, z.w.cell? ⟨g, off + kn * 13, none⟩ = some (.int .i64 m1) := fun z => ((hto z).cell (p := ⟨g, _, none⟩) hgl hng).trans a0
    have b1 : ∀ z : Wd S, z.w.cell? ⟨g, off + kn * 13 + 1, none⟩ = some (.int .i64 m2) := fun z => ((hto z).cell (p := ⟨g, _, none⟩) hgl hng).trans a1
    have b2 : ∀ z : Wd S, z.w.cell? ⟨g, off + kn * 13 + 2, none⟩ = some (.int .i64 m3) := fun z => ((hto z).cell (p := ⟨g, _, none⟩) hgl hng).trans a2
    have b3 : ∀ z : Wd S, z.w.cell? ⟨g, off + kn * 13 + 3, none⟩ = some (.int .i64 m4) := fun z => ((hto z).cell (p := ⟨g, _, none⟩) hgl hng).trans a3
    have b4 : ∀ z : Wd S, z.w.cell? ⟨g, off + kn * 13 + 4, none⟩ = some (.int .i64 m5) := fun z => ((hto z).cell (p := ⟨g, _, none⟩) hgl hng).trans a4
    have b5 : ∀ z : Wd S, z.w.cell? ⟨g, off + kn * 13 + 5, none⟩ = some (.int .i64 m6) := fun z => ((hto z).cell (p := ⟨g, _, none⟩) hgl hng).trans a5
    have b6 : ∀ z : Wd S, z.w.cell? ⟨g, off + kn * 13 + 6, none⟩ = some (.int .i64 m7) := fun z => ((hto z).cell (p := ⟨g, _, none⟩) hgl hng).trans a6
    have b7 : ∀ z : Wd S, z.w.cell? ⟨g, off + kn * 13 + 7, none⟩ = some (.int .u32 m8) := fun z => ((hto z).cell (p := ⟨g, _, none⟩) hgl hng).trans a7
    have b8 : ∀ z : Wd S, z.w.cell? ⟨g, off + kn * 13 + 8, none⟩ = some (.int .u32 m9) := fun z => ((hto z).cell (p := ⟨g, _, none⟩) hgl hng).trans a8
    have b9 : ∀ z : Wd S, z.w.cell? ⟨g, off + kn * 13 + 9, none⟩ = some (.int .u32 m10) := fun z => ((hto z).cell (p := ⟨g, _, none⟩) hgl hng).trans a9
    have b10 : ∀ z : Wd S, z.w.cell? ⟨g, off + kn * 13 + 10, none⟩ = some (.int .u32 m11) := fun z => ((hto z).cell (p := ⟨g, _, none⟩) hgl hng).trans a10
    have b11 : ∀ z : Wd S, z.w.cell? ⟨g, off + kn * 13 + 11, none⟩ = some (.int .u32 m12) := fun z => ((hto z).cell (p := ⟨g, _, none⟩) hgl hng).trans a11
    have b12 : ∀ z : Wd S, z.w.cell? ⟨g, off + kn * 13 + 12, none⟩ = some (.bool m13) := fun z => ((hto z).cell (p := ⟨g, _, none⟩) hgl hng).trans a12
    have hlook : ∀ z : Wd S, (Instr.lookup 66 (.map (some r)) (.agg #[.int .i64 kp, .int .i64 kc]) false).run Tryd.prog z.w = .ok (.slice (some ⟨g, off, none⟩) L.length ck) z.w := fun z => HLK.out z.w (((hto z).block r hlm nr).trans HF3.out.map)
    have Hof := Lib.hid hof
    clear hto hof g2 p0 p1 hxb hxp a0 a1 a2 a3 a4 a5 a6 a7 a8 a9 a10 a11 a12 hc
    refine lexW_light 9 (by kernel_rfl) ?_
    simp only [List.take_succ_cons, List.take_zero, List.drop_succ_cons, List.drop_zero]
    repeat (first | go_big_quiet_skip | (go_big_quiet_want; go_big_quiet_op; go_big_quiet_on))
    refine wpQuiet_nil ?_
    clear x2 y0 y1 hlook b0 b1 b2 b3 b4 b5 b6 b7 b8 b9 b10 b11 b12
    refine lexW_heavy (by kernel_rfl) ?_
    go_wp2_with fail
    rw [← set13 w3 h8]
    have hz := block13 hxr (.int .i64 m1) (.int .i64 m2) (.int .i64 m3) (.int .i64 m4) (.int .i64 m5) (.int .i64 m6) (.int .i64 m7) (.int .u32 m8) (.int .u32 m9) (.int .u32 m10) (.int .u32 m11) (.int .u32 m12) (.bool m13)
    rw [← heap_drew'] at hz
    have hMz := (mods13 w3 h8 (.int .i64 m1) (.int .i64 m2) (.int .i64 m3) (.int .i64 m4) (.int .i64 m5) (.int .i64 m6) (.int .i64 m7) (.int .u32 m8) (.int .u32 m9) (.int .u32 m10) (.int .u32 m11) (.int .u32 m12) (.bool m13)).drew
    have HBZ := Lib.hid (HB3.out.trans (hMz.below HB3.out.size fun q (hq : q = h8) => by have := HLE.out.1; omega))
    refine lexQ_more (Hof.out _ hMz) ?_
    clear hMz
    clear hxr hlr r0 r1 r2 r3 r4 r5 r6 r7 r8 r9 r10 r11 r12 zr0 zr1 zr2 zr3 zr4 zr5 zr6 zr7 zr8 zr9 zr10 zr11 zr12
    generalize (w3.setCells h8 0 [.int .i64 m1, .int .i64 m2, .int .i64 m3, .int .i64 m4, .int .i64 m5, .int .i64 m6, .int .i64 m7, .int .u32 m8, .int .u32 m9, .int .u32 m10, .int .u32 m11, .int .u32 m12, .bool m13]).drew = wz at *
    refine lexW_light 1 (by kernel_rfl) ?_
    simp only [List.take_succ_cons, List.take_zero, List.drop_succ_cons, List.drop_zero]
    repeat (first | go_big_quiet_skip | (go_big_quiet_want; go_big_quiet_op; go_big_quiet_on))
    refine wpQuiet_nil ?_
    refine lexW_done ?_
    clear Hof hne
    go_wp2_with fail
    have c0 := cell_of hz 0
    have c1 := cell_of hz 1
    have c2 := cell_of hz 2
    have c3 := cell_of hz 3
    have c4 := cell_of hz 4
    have c5 := cell_of hz 5
    have c6 := cell_of hz 6
    have c7 := cell_of hz 7
    have c8 := cell_of hz 8
    have c9 := cell_of hz 9
    have c10 := cell_of hz 10
    have c11 := cell_of hz 11
    have c12 := cell_of hz 12
    simp only [List.getElem?_toArray, List.getElem?_cons_zero, List.getElem?_cons_succ] at c0 c1 c2 c3 c4 c5 c6 c7 c8 c9 c10 c11 c12
    refine bodyPost_ret_by (v := .tuple #[.agg #[.int .i64 m1, .int .i64 m2, .int .i64 m3, .int .i64 m4, .int .i64 m5, .int .i64 m6, .int .i64 m7, .int .u32 m8, .int .u32 m9, .int .u32 m10, .int .u32 m11, .int .u32 m12, .bool m13], .bool true]) (by simp [results, Tryd.results22, go_sem, c0, c1, c2, c3, c4, c5, c6, c7, c8, c9, c10, c11, c12]) rfl ?_
    rw [HTL.out]
    exact ⟨rfl, HBZ.out⟩
  · have HPB := Lib.hid (show peekP cores F p c k = (zeroM, false) from by rw [HPK.out]; exact if_neg hgood)
    cases ok with
    | false =>
      refine wp_region_lexA ⟨[], []⟩ (fun x => Below w2.heap.size w2 x) (by kernel_rfl) (by kernel_rfl) (Below.refl _ _).drew ?_
      intro S hto hof hne
      have x2 : ∀ z : Wd S, z.w.cell? ⟨b, 2, none⟩ = some (.map (some r)) := fun z => ((hto z).cell (p := ⟨b, 2, none⟩) hlb).trans g2
      have y0 : ∀ z : Wd S, z.w.cell? ⟨h10, 0, none⟩ = some (.int .i64 kp) := fun z => ((hto z).cell (p := ⟨h10, 0, none⟩) hlp).trans p0
      have y1 : ∀ z : Wd S, z.w.cell? ⟨h10, 1, none⟩ = some (.int .i64 kc) := fun z => ((hto z).cell (p := ⟨h10, 1, none⟩) hlp).trans p1
      have hlook : ∀ z : Wd S, (Instr.lookup 66 (.map (some r)) (.agg #[.int .i64 kp, .int .i64 kc]) false).run Tryd.prog z.w = .ok (.slice ak L.length ck) z.w := fun z => HLK.out z.w (HF2.out.bel (hto z)).map
      clear hto hof
      refine lexW_light 17 (by kernel_rfl) ?_
      simp only [List.take_succ_cons, List.take_zero, List.drop_succ_cons, List.drop_zero]
      repeat (first | go_big_quiet_skip | (go_big_quiet_want; go_big_quiet_op; go_big_quiet_on))
      refine wpQuiet_nil ?_
      refine lexW_done ?_
      clear x2 y0 y1 hlook hne
      have HX3 := Lib.hid (show w2.drew.heap[h8]? = some (.cells #[.int .i64 0, .int .i64 0, .int .i64 0, .int .i64 0, .int .i64 0, .int .i64 0, .int .i64 0, .int .u32 0, .int .u32 0, .int .u32 0, .int .u32 0, .int .u32 0, .bool false] 32 (0, 0)) from HX2.out)
      have HB3 := Lib.hid (show Below w.heap.size w w2.drew from HB2.out.drew)
      have HF3 := Lib.hid (show FbE w0 b r cores room E F w2.drew from HF2.out.bel (Below.refl _ _).drew)
      have HP3 := Lib.hid (show w2.drew.heap[h10]? = some (.cells #[.int .i64 kp, .int .i64 kc] 70 (0, 0)) from HP2.out)
      have HV3 := Lib.hid (show winRow w2.drew w0.heap.size 32 13 (.slice ak L.length ck) L.length (flatM L) from HVW.out.below (Below.refl _ _).drew)
      clear g2 p0 p1 hlb hlp hxb hxp HVW
      generalize w2.drew = w3 at *
      have hxr := HX3.out
      have r0 := cell_of hxr 0
      have r1 := cell_of hxr 1
      have r2 := cell_of hxr 2
      have r3 := cell_of hxr 3
      have r4 := cell_of hxr 4
      have r5 := cell_of hxr 5
      have r6 := cell_of hxr 6
      have r7 := cell_of hxr 7
      have r8 := cell_of hxr 8
      have r9 := cell_of hxr 9
      have r10 := cell_of hxr 10
      have r11 := cell_of hxr 11
      have r12 := cell_of hxr 12
      simp only [List.getElem?_toArray, List.getElem?_cons_zero, List.getElem?_cons_succ] at r0 r1 r2 r3 r4 r5 r6 r7 r8 r9 r10 r11 r12
      have hlr := (Array.getElem?_eq_some_iff.1 hxr).1
      have zr0 := frozen_of hxr 0
      have zr1 := frozen_of hxr 1
      have zr2 := frozen_of hxr 2
      have zr3 := frozen_of hxr 3
      have zr4 := frozen_of hxr 4
      have zr5 := frozen_of hxr 5
      have zr6 := frozen_of hxr 6
      have zr7 := frozen_of hxr 7
      have zr8 := frozen_of hxr 8
      have zr9 := frozen_of hxr 9
      have zr10 := frozen_of hxr 10
      have zr11 := frozen_of hxr 11
      have zr12 := frozen_of hxr 12
      go_wp2_with fail
      rw [← set13 w3 h8]
      have hz := block13 hxr (.int .i64 0) (.int .i64 0) (.int .i64 0) (.int .i64 0) (.int .i64 0) (.int .i64 0) (.int .i64 0) (.int .u32 0) (.int .u32 0) (.int .u32 0) (.int .u32 0) (.int .u32 0) (.bool false)
      have HBZ := Lib.hid (HB3.out.trans ((mods13 w3 h8 (.int .i64 0) (.int .i64 0) (.int .i64 0) (.int .i64 0) (.int .i64 0) (.int .i64 0) (.int .i64 0) (.int .u32 0) (.int .u32 0) (.int .u32 0) (.int .u32 0) (.int .u32 0) (.bool false)).below HB3.out.size fun q (hq : q = h8) => by have := HLE.out.1; omega))
      clear hxr hlr r0 r1 r2 r3 r4 r5 r6 r7 r8 r9 r10 r11 r12 zr0 zr1 zr2 zr3 zr4 zr5 zr6 zr7 zr8 zr9 zr10 zr11 zr12
      generalize w3.setCells h8 0 [.int .i64 0, .int .i64 0, .int .i64 0, .int .i64 0, .int .i64 0, .int .i64 0, .int .i64 0, .int .u32 0, .int .u32 0, .int .u32 0, .int .u32 0, .int .u32 0, .bool false] = wz at *
      have c0 := cell_of hz 0
      have c1 := cell_of hz 1
      have c2 := cell_of hz 2
      have c3 := cell_of hz 3
      have c4 := cell_of hz 4
      have c5 := cell_of hz 5
      have c6 := cell_of hz 6
      have c7 := cell_of hz 7
      have c8 := cell_of hz 8
      have c9 := cell_of hz 9
      have c10 := cell_of hz 10
      have c11 := cell_of hz 11
      have c12 := cell_of hz 12
      simp only [List.getElem?_toArray, List.getElem?_cons_zero, List.getElem?_cons_succ] at c0 c1 c2 c3 c4 c5 c6 c7 c8 c9 c10 c11 c12
      refine bodyPost_ret_by (v := .tuple #[.agg #[.int .i64 0, .int .i64 0, .int .i64 0, .int .i64 0, .int .i64 0, .int .i64 0, .int .i64 0, .int .u32 0, .int .u32 0, .int .u32 0, .int .u32 0, .int .u32 0, .bool false], .bool false]) (by simp [results, Tryd.results22, go_sem, c0, c1, c2, c3, c4, c5, c6, c7, c8, c9, c10, c11, c12]) rfl ?_
      rw [HPB.out]
      exact ⟨rfl, HBZ.out⟩
    | true =>
      by_cases hk0 : 0 ≤ k
      · have hk1 : (L.length : Int) ≤ k := by
          have : ¬ (k < (L.length : Int)) := fun hh => hgood ⟨rfl, hk0, hh⟩
          omega
        clear hgood
        have g0 : decide (k < 0) = false := by simp; omega
        have g1 : decide ((L.length : Int) ≤ k) = true := by simp; omega
        refine wp_region_lexA ⟨[], []⟩ (fun x => Below w2.heap.size w2 x) (by kernel_rfl) (by kernel_rfl) (Below.refl _ _).drew ?_
        intro S hto hof hne
        have x2 : ∀ z : Wd S, z.w.cell? ⟨b, 2, none⟩ = some (.map (some r)) := fun z => ((hto z).cell (p := ⟨b, 2, none⟩) hlb).trans g2
        have y0 : ∀ z : Wd S, z.w.cell? ⟨h10, 0, none⟩ = some (.int .i64 kp) := fun z => ((hto z).cell (p := ⟨h10, 0, none⟩) hlp).trans p0
        have y1 : ∀ z : Wd S, z.w.cell? ⟨h10, 1, none⟩ = some (.int .i64 kc) := fun z => ((hto z).cell (p := ⟨h10, 1, none⟩) hlp).trans p1
        have hlook : ∀ z : Wd S, (Instr.lookup 66 (.map (some r)) (.agg #[.int .i64 kp, .int .i64 kc]) false).run Tryd.prog z.w = .ok (.slice ak L.length ck) z.w := fun z => HLK.out z.w (HF2.out.bel (hto z)).map
        clear hto hof
        refine lexW_light 17 (by kernel_rfl) ?_
        simp only [List.take_succ_cons, List.take_zero, List.drop_succ_cons, List.drop_zero]
        repeat (first | go_big_quiet_skip | (go_big_quiet_want; go_big_quiet_op; go_big_quiet_on))
        refine wpQuiet_nil ?_
        refine lexW_done ?_
        clear x2 y0 y1 hlook hne
        have HX3 := Lib.hid (show w2.drew.heap[h8]? = some (.cells #[.int .i64 0, .int .i64 0, .int .i64 0, .int .i64 0, .int .i64 0, .int .i64 0, .int .i64 0, .int .u32 0, .int .u32 0, .int .u32 0, .int .u32 0, .int .u32 0, .bool false] 32 (0, 0)) from HX2.out)
        have HB3 := Lib.hid (show Below w.heap.size w w2.drew from HB2.out.drew)
        have HF3 := Lib.hid (show FbE w0 b r cores room E F w2.drew from HF2.out.bel (Below.refl _ _).drew)
        have HP3 := Lib.hid (show w2.drew.heap[h10]? = some (.cells #[.int .i64 kp, .int .i64 kc] 70 (0, 0)) from HP2.out)
        have HV3 := Lib.hid (show winRow w2.drew w0.heap.size 32 13 (.slice ak L.length ck) L.length (flatM L) from HVW.out.below (Below.refl _ _).drew)
        clear g2 p0 p1 hlb hlp hxb hxp HVW
        generalize w2.drew = w3 at *
        have hxr := HX3.out
        have r0 := cell_of hxr 0
        have r1 := cell_of hxr 1
        have r2 := cell_of hxr 2
        have r3 := cell_of hxr 3
        have r4 := cell_of hxr 4
        have r5 := cell_of hxr 5
        have r6 := cell_of hxr 6
        have r7 := cell_of hxr 7
        have r8 := cell_of hxr 8
        have r9 := cell_of hxr 9
        have r10 := cell_of hxr 10
        have r11 := cell_of hxr 11
        have r12 := cell_of hxr 12
        simp only [List.getElem?_toArray, List.getElem?_cons_zero, List.getElem?_cons_succ] at r0 r1 r2 r3 r4 r5 r6 r7 r8 r9 r10 r11 r12
        have hlr := (Array.getElem?_eq_some_iff.1 hxr).1
        have zr0 := frozen_of hxr 0
        have zr1 := frozen_of hxr 1
        have zr2 := frozen_of hxr 2
        have zr3 := frozen_of hxr 3
        have zr4 := frozen_of hxr 4
        have zr5 := frozen_of hxr 5
        have zr6 := frozen_of hxr 6
        have zr7 := frozen_of hxr 7
        have zr8 := frozen_of hxr 8
        have zr9 := frozen_of hxr 9
        have zr10 := frozen_of hxr 10
        have zr11 := frozen_of hxr 11
        have zr12 := frozen_of hxr 12
        go_wp2_with fail
        rw [← set13 w3 h8]
        have hz := block13 hxr (.int .i64 0) (.int .i64 0) (.int .i64 0) (.int .i64 0) (.int .i64 0) (.int .i64 0) (.int .i64 0) (.int .u32 0) (.int .u32 0) (.int .u32 0) (.int .u32 0) (.int .u32 0) (.bool false)
        have HBZ := Lib.hid (HB3.out.trans ((mods13 w3 h8 (.int .i64 0) (.int .i64 0) (.int .i64 0) (.int .i64 0) (.int .i64 0) (.int .i64 0) (.int .i64 0) (.int .u32 0) (.int .u32 0) (.int .u32 0) (.int .u32 0) (.int .u32 0) (.bool false)).below HB3.out.size fun q (hq : q = h8) => by have := HLE.out.1; omega))
        clear hxr hlr r0 r1 r2 r3 r4 r5 r6 r7 r8 r9 r10 r11 r12 zr0 zr1 zr2 zr3 zr4 zr5 zr6 zr7 zr8 zr9 zr10 zr11 zr12
        generalize w3.setCells h8 0 [.int .i64 0, .int .i64 0, .int .i64 0, .int .i64 0, .int .i64 0, .int .i64 0, .int .i64 0, .int .u32 0, .int .u32 0, .int .u32 0, .int .u32 0, .int .u32 0, .bool false] = wz at *
        have c0 := cell_of hz 0
        have c1 := cell_of hz 1
        have c2 := cell_of hz 2
        have c3 := cell_of hz 3
        have c4 := cell_of hz 4
        have c5 := cell_of hz 5
        have c6 := cell_of hz 6
        have c7 := cell_of hz 7
        have c8 := cell_of hz 8
        have c9 := cell_of hz 9
        have c10 := cell_of hz 10
        have c11 := cell_of hz 11
        have c12 := cell_of hz 12
        simp only [List.getElem?_toArray, List.getElem?_cons_zero, List.getElem?_cons_succ] at c0 c1 c2 c3 c4 c5 c6 c7 c8 c9 c10 c11 c12
        refine bodyPost_ret_by (v := .tuple #[.agg #[.int .i64 0, .int .i64 0, .int .i64 0, .int .i64 0, .int .i64 0, .int .i64 0, .int .i64 0, .int .u32 0, .int .u32 0, .int .u32 0, .int .u32 0, .int .u32 0, .bool false], .bool false]) (by simp [results, Tryd.results22, go_sem, c0, c1, c2, c3, c4, c5, c6, c7, c8, c9, c10, c11, c12]) rfl ?_
        rw [HPB.out]
        exact ⟨rfl, HBZ.out⟩
      · clear hgood
        have g0 : decide (k < 0) = true := by simp; omega
        refine wp_region_lexA ⟨[], []⟩ (fun x => Below w2.heap.size w2 x) (by kernel_rfl) (by kernel_rfl) (Below.refl _ _).drew ?_
        intro S hto hof hne
        have x2 : ∀ z : Wd S, z.w.cell? ⟨b, 2, none⟩ = some (.map (some r)) := fun z => ((hto z).cell (p := ⟨b, 2, none⟩) hlb).trans g2
        have y0 : ∀ z : Wd S, z.w.cell? ⟨h10, 0, none⟩ = some (.int .i64 kp) := fun z => ((hto z).cell (p := ⟨h10, 0, none⟩) hlp).trans p0
        have y1 : ∀ z : Wd S, z.w.cell? ⟨h10, 1, none⟩ = some (.int .i64 kc) := fun z => ((hto z).cell (p := ⟨h10, 1, none⟩) hlp).trans p1
        have hlook : ∀ z : Wd S, (Instr.lookup 66 (.map (some r)) (.agg #[.int .i64 kp, .int .i64 kc]) false).run Tryd.prog z.w = .ok (.slice ak L.length ck) z.w := fun z => HLK.out z.w (HF2.out.bel (hto z)).map
        clear hto hof
        refine lexW_light 17 (by kernel_rfl) ?_
        simp only [List.take_succ_cons, List.take_zero, List.drop_succ_cons, List.drop_zero]
        repeat (first | go_big_quiet_skip | (go_big_quiet_want; go_big_quiet_op; go_big_quiet_on))
        refine wpQuiet_nil ?_
        refine lexW_done ?_
        clear x2 y0 y1 hlook hne
        have HX3 := Lib.hid (show w2.drew.heap[h8]? = some (.cells #[.int .i64 0, .int .i64 0, .int .i64 0, .int .i64 0, .int .i64 0, .int .i64 0, .int .i64 0, .int .u32 0, .int .u32 0, .int .u32 0, .int .u32 0, .int .u32 0, .bool false] 32 (0, 0)) from HX2.out)
        have HB3 := Lib.hid (show Below w.heap.size w w2.drew from HB2.out.drew)
        have HF3 := Lib.hid (show FbE w0 b r cores room E F w2.drew from HF2.out.bel (Below.refl _ _).drew)
        have HP3 := Lib.hid (show w2.drew.heap[h10]? = some (.cells #[.int .i64 kp, .int .i64 kc] 70 (0, 0)) from HP2.out)
        have HV3 := Lib.hid (show winRow w2.drew w0.heap.size 32 13 (.slice ak L.length ck) L.length (flatM L) from HVW.out.below (Below.refl _ _).drew)
        clear g2 p0 p1 hlb hlp hxb hxp HVW
        generalize w2.drew = w3 at *
        have hxr := HX3.out
        have r0 := cell_of hxr 0
        have r1 := cell_of hxr 1
        have r2 := cell_of hxr 2
        have r3 := cell_of hxr 3
        have r4 := cell_of hxr 4
        have r5 := cell_of hxr 5
        have r6 := cell_of hxr 6
        have r7 := cell_of hxr 7
        have r8 := cell_of hxr 8
        have r9 := cell_of hxr 9
        have r10 := cell_of hxr 10
        have r11 := cell_of hxr 11
        have r12 := cell_of hxr 12
        simp only [List.getElem?_toArray, List.getElem?_cons_zero, List.getElem?_cons_succ] at r0 r1 r2 r3 r4 r5 r6 r7 r8 r9 r10 r11 r12
        have hlr := (Array.getElem?_eq_some_iff.1 hxr).1
        have zr0 := frozen_of hxr 0
        have zr1 := frozen_of hxr 1
        have zr2 := frozen_of hxr 2
        have zr3 := frozen_of hxr 3
        have zr4 := frozen_of hxr 4
        have zr5 := frozen_of hxr 5
        have zr6 := frozen_of hxr 6
        have zr7 := frozen_of hxr 7
        have zr8 := frozen_of hxr 8
        have zr9 := frozen_of hxr 9
        have zr10 := frozen_of hxr 10
        have zr11 := frozen_of hxr 11
        have zr12 := frozen_of hxr 12
        go_wp2_with fail
        rw [← set13 w3 h8]
        have hz := block13 hxr (.int .i64 0) (.int .i64 0) (.int .i64 0) (.int .i64 0) (.int .i64 0) (.int .i64 0) (.int .i64 0) (.int .u32 0) (.int .u32 0) (.int .u32 0) (.int .u32 0) (.int .u32 0) (.bool false)
        have HBZ := Lib.hid (HB3.out.trans ((mods13 w3 h8 (.int .i64 0) (.int .i64 0) (.int .i64 0) (.int .i64 0) (.int .i64 0) (.int .i64 0) (.int .i64 0) (.int .u32 0) (.int .u32 0) (.int .u32 0) (.int .u32 0) (.int .u32 0) (.bool false)).below HB3.out.size fun q (hq : q = h8) => by have := HLE.out.1; omega))
        clear hxr hlr r0 r1 r2 r3 r4 r5 r6 r7 r8 r9 r10 r11 r12 zr0 zr1 zr2 zr3 zr4 zr5 zr6 zr7 zr8 zr9 zr10 zr11 zr12
        generalize w3.setCells h8 0 [.int .i64 0, .int .i64 0, .int .i64 0, .int .i64 0, .int .i64 0, .int .i64 0, .int .i64 0, .int .u32 0, .int .u32 0, .int .u32 0, .int .u32 0, .int .u32 0, .bool false] = wz at *
        have c0 := cell_of hz 0
        have c1 := cell_of hz 1
        have c2 := cell_of hz 2
        have c3 := cell_of hz 3
        have c4 := cell_of hz 4
        have c5 := cell_of hz 5
        have c6 := cell_of hz 6
        have c7 := cell_of hz 7
        have c8 := cell_of hz 8
        have c9 := cell_of hz 9
        have c10 := cell_of hz 10
        have c11 := cell_of hz 11
        have c12 := cell_of hz 12
        simp only [List.getElem?_toArray, List.getElem?_cons_zero, List.getElem?_cons_succ] at c0 c1 c2 c3 c4 c5 c6 c7 c8 c9 c10 c11 c12
        refine bodyPost_ret_by (v := .tuple #[.agg #[.int .i64 0, .int .i64 0, .int .i64 0, .int .i64 0, .int .i64 0, .int .i64 0, .int .i64 0, .int .u32 0, .int .u32 0, .int .u32 0, .int .u32 0, .int .u32 0, .bool false], .bool false]) (by simp [results, Tryd.results22, go_sem, c0, c1, c2, c3, c4, c5, c6, c7, c8, c9, c10, c11, c12]) rfl ?_
        rw [HPB.out]
        exact ⟨rfl, HBZ.out⟩

end Go.Proofs.YtbefkkefglkleaaDoor
