/- The document's Take. -/
import Derived.Test.YtbefkkefglkleaaDoorRf4
import Derived.Test.YtbefkkefglkleaaDoorFa8
import Derived.Test.YtbefkkefglkleaaDoorFb5
namespace Go.Proofs.YtbefkkefglkleaaDoor
open Go.RowKit Go.Extern.Stop Go.Stop Go.Extern

set_option maxRecDepth 100000 in
set_option maxHeartbeats 8000000 in
theorem rtake_c (w0 : World) (b n : Nat) (room : Int) (X : Nat → Value) (V : Nat → Nat → Value) (F : Plc → List MsgV) (p c k : Int) (w : World) (hh : RfH b n room X w) (h : RfB w0 n X V F w) (h1 : 1 ≤ n) (h2 : n ≤ 64) (hF : ∀ q, (F q).length ≤ 100000) :
    Calls Tryd.prog 24 #[.pointer (some ⟨b, 0, none⟩), .int .i64 p, .int .i64 c, .int .i64 k] w fun ev w' => ev = .returned (.tuple #[(peekP n F p c k).1.v, .bool (peekP n F p c k).2]) ∧ RfPost w0 n X V (takeF n F p c k) w w' := by
  have HB0 := Lib.hid h
  have HFL := Lib.hid hF
  obtain ⟨i0, hi0, hi1⟩ := Option.map_eq_some_iff.1 nInfoM
  simp only [Prod.mk.injEq] at hi1
  obtain ⟨hz0, hz1, hz2⟩ := hi1
  have HI := Lib.hid hi0
  have HZ0 := Lib.hid hz0
  have HZ1 := Lib.hid hz1
  have HZ2 := Lib.hid hz2
  clear hi0 hz0 hz1 hz2
  have hba : Below w.heap.size w (w.alloc (.cells #[.int .i64 0, .int .i64 0, .int .i64 0, .int .i64 0, .int .i64 0, .int .i64 0, .int .i64 0, .int .u32 0, .int .u32 0, .int .u32 0, .int .u32 0, .int .u32 0, .bool false] 32)) := (Below.refl _ _).alloc (Nat.le_refl _) _
  have HBA := Lib.hid hba
  have HXA := Lib.hid (heap_alloc_new w (.cells #[.int .i64 0, .int .i64 0, .int .i64 0, .int .i64 0, .int .i64 0, .int .i64 0, .int .i64 0, .int .u32 0, .int .u32 0, .int .u32 0, .int .u32 0, .int .u32 0, .bool false] 32))
  have HH := Lib.hid (hh.bel hba)
  have HB := Lib.hid (h.bel hba)
  have HOW := Lib.hid (fun (q : Nat) (hq : RfOwn n X V q) => (h.lt hq).2)
  clear h hh hba hF
  go_enter Tryd.func24, Tryd.ntmps24
  go_upto_region 1 with fail
  obtain ⟨h8, hh8⟩ : ∃ h, h = w.heap.size := ⟨_, rfl⟩
  have HLE := Lib.hid (show w.heap.size ≤ h8 from by omega)
  rw [← hh8] at HXA ⊢
  generalize w.alloc (.cells #[.int .i64 0, .int .i64 0, .int .i64 0, .int .i64 0, .int .i64 0, .int .i64 0, .int .i64 0, .int .u32 0, .int .u32 0, .int .u32 0, .int .u32 0, .int .u32 0, .bool false] 32) = wa at *
  clear hh8
  go_wp2_with fail
  refine (rpeek_c w0 b n room X V F p c k wa HH.out HB.out h1 h2).mono ?_
  rintro ev w1 ⟨rfl, hb1⟩
  have HH1 := Lib.hid (HH.out.bel hb1)
  have HB1 := Lib.hid (HB.out.bel hb1)
  have HW1 := Lib.hid (HBA.out.trans (hb1.mono HBA.out.size))
  have HX1 := Lib.hid ((hb1.block h8 (Array.getElem?_eq_some_iff.1 HXA.out).1).trans HXA.out)
  have HTF := Lib.hid (show takeF n F p c k = if (peekP n F p c k).2 then updF F (placeP p c) ((F (placeP p c)).eraseIdx k.toNat) else F from rfl)
  obtain ⟨pk, hpk⟩ : ∃ pk, peekP n F p c k = pk := ⟨_, rfl⟩
  have HPK := Lib.hid hpk
  rw [hpk] at HTF ⊢
  clear hb1 HH HB HBA HXA hpk
  obtain ⟨M, ok⟩ := pk
  obtain ⟨m1, m2, m3, m4, m5, m6, m7, m8, m9, m10, m11, m12, m13⟩ := M
  simp only [MsgV.v]
  go_upto_region 2 with fail
  have hb2 : Below w1.heap.size w1 (w1.alloc (.cells #[.int .i64 m1, .int .i64 m2, .int .i64 m3, .int .i64 m4, .int .i64 m5, .int .i64 m6, .int .i64 m7, .int .u32 m8, .int .u32 m9, .int .u32 m10, .int .u32 m11, .int .u32 m12, .bool m13] 32)) := (Below.refl _ _).alloc (Nat.le_refl _) _
  have HH2 := Lib.hid (HH1.out.bel hb2)
  have HB2 := Lib.hid (HB1.out.bel hb2)
  have HW2 := Lib.hid (HW1.out.trans (hb2.mono HW1.out.size))
  have HX2 := Lib.hid ((hb2.block h8 (Array.getElem?_eq_some_iff.1 HX1.out).1).trans HX1.out)
  have HM2 := Lib.hid (heap_alloc_new w1 (.cells #[.int .i64 m1, .int .i64 m2, .int .i64 m3, .int .i64 m4, .int .i64 m5, .int .i64 m6, .int .i64 m7, .int .u32 m8, .int .u32 m9, .int .u32 m10, .int .u32 m11, .int .u32 m12, .bool m13] 32))
  obtain ⟨h10, hh10⟩ : ∃ h, h = w1.heap.size := ⟨_, rfl⟩
  have HN10 := Lib.hid (show h10 ≠ h8 ∧ h8 < h10 from by have := (Array.getElem?_eq_some_iff.1 HX1.out).1; omega)
  rw [← hh10] at HM2 ⊢
  generalize w1.alloc (.cells #[.int .i64 m1, .int .i64 m2, .int .i64 m3, .int .i64 m4, .int .i64 m5, .int .i64 m6, .int .i64 m7, .int .u32 m8, .int .u32 m9, .int .u32 m10, .int .u32 m11, .int .u32 m12, .bool m13] 32) = w2 at *
  clear hb2 hh10 HH1 HB1 HW1 HX1
  cases ok with
  | false =>
    have HTE := Lib.hid (show takeF n F p c k = F from HTF.out)
    have HP2 := Lib.hid (show RfPost w0 n X V F w w2 from ⟨V, HB2.out, Mods.of_below HW2.out, fun q hq => .inl hq⟩)
    have HO2 := Lib.hid (show ∀ V', (∀ q, RfOwn n X V' q → RfOwn n X V q ∨ w2.heap.size ≤ q) → ∀ q, RfOwn n X V' q → q ≠ h8 from fun V' hv q hq => by
      have h3 := (Array.getElem?_eq_some_iff.1 HX2.out).1
      rcases hv q hq with e | e
      · have := HOW.out q e
        have := HLE.out
        omega
      · omega)
    have hxq := HM2.out
    have q0 := cell_of hxq 0
    have q1 := cell_of hxq 1
    have q2 := cell_of hxq 2
    have q3 := cell_of hxq 3
    have q4 := cell_of hxq 4
    have q5 := cell_of hxq 5
    have q6 := cell_of hxq 6
    have q7 := cell_of hxq 7
    have q8 := cell_of hxq 8
    have q9 := cell_of hxq 9
    have q10 := cell_of hxq 10
    have q11 := cell_of hxq 11
    have q12 := cell_of hxq 12
    simp only [List.getElem?_toArray, List.getElem?_cons_zero, List.getElem?_cons_succ] at q0 q1 q2 q3 q4 q5 q6 q7 q8 q9 q10 q11 q12
    have hlq := (Array.getElem?_eq_some_iff.1 hxq).1
    have hxr := HX2.out
    have r0 := cell_of hxr 0
    have r1 := cell_of hxr 1
    have r2 := cell_of hxr 2
    have r3 := cell_of hxr 3
    have r4 := cell_of hxr 4
    have r5 := cell_of hxr 5
    have r6 := cell_of hxr 6
    have r7 := cell_of hxr 7
    have r8 := cell_of hxr 8
    have r9 := cell_of hxr 9
    have r10 := cell_of hxr 10
    have r11 := cell_of hxr 11
    have r12 := cell_of hxr 12
    simp only [List.getElem?_toArray, List.getElem?_cons_zero, List.getElem?_cons_succ] at r0 r1 r2 r3 r4 r5 r6 r7 r8 r9 r10 r11 r12
    have hlr := (Array.getElem?_eq_some_iff.1 hxr).1
    have zr0 := frozen_of hxr 0
    have zr1 := frozen_of hxr 1
    have zr2 := frozen_of hxr 2
    have zr3 := frozen_of hxr 3
    have zr4 := frozen_of hxr 4
    have zr5 := frozen_of hxr 5
    have zr6 := frozen_of hxr 6
    have zr7 := frozen_of hxr 7
    have zr8 := frozen_of hxr 8
    have zr9 := frozen_of hxr 9
    have zr10 := frozen_of hxr 10
    have zr11 := frozen_of hxr 11
    have zr12 := frozen_of hxr 12
    go_wp2_with fail
    rw [← set13 w2 h8]
    have hz := block13 hxr (.int .i64 m1) (.int .i64 m2) (.int .i64 m3) (.int .i64 m4) (.int .i64 m5) (.int .i64 m6) (.int .i64 m7) (.int .u32 m8) (.int .u32 m9) (.int .u32 m10) (.int .u32 m11) (.int .u32 m12) (.bool m13)
    have HMZ := Lib.hid (mods13 w2 h8 (.int .i64 m1) (.int .i64 m2) (.int .i64 m3) (.int .i64 m4) (.int .i64 m5) (.int .i64 m6) (.int .i64 m7) (.int .u32 m8) (.int .u32 m9) (.int .u32 m10) (.int .u32 m11) (.int .u32 m12) (.bool m13))
    clear hxq hlq q0 q1 q2 q3 q4 q5 q6 q7 q8 q9 q10 q11 q12
    clear hxr hlr r0 r1 r2 r3 r4 r5 r6 r7 r8 r9 r10 r11 r12 zr0 zr1 zr2 zr3 zr4 zr5 zr6 zr7 zr8 zr9 zr10 zr11 zr12
    generalize w2.setCells h8 0 [.int .i64 m1, .int .i64 m2, .int .i64 m3, .int .i64 m4, .int .i64 m5, .int .i64 m6, .int .i64 m7, .int .u32 m8, .int .u32 m9, .int .u32 m10, .int .u32 m11, .int .u32 m12, .bool m13] = wz at *
    have c0 := cell_of hz 0
    have c1 := cell_of hz 1
    have c2 := cell_of hz 2
    have c3 := cell_of hz 3
    have c4 := cell_of hz 4
    have c5 := cell_of hz 5
    have c6 := cell_of hz 6
    have c7 := cell_of hz 7
    have c8 := cell_of hz 8
    have c9 := cell_of hz 9
    have c10 := cell_of hz 10
    have c11 := cell_of hz 11
    have c12 := cell_of hz 12
    simp only [List.getElem?_toArray, List.getElem?_cons_zero, List.getElem?_cons_succ] at c0 c1 c2 c3 c4 c5 c6 c7 c8 c9 c10 c11 c12
    refine bodyPost_ret_by (v := .tuple #[.agg #[.int .i64 m1, .int .i64 m2, .int .i64 m3, .int .i64 m4, .int .i64 m5, .int .i64 m6, .int .i64 m7, .int .u32 m8, .int .u32 m9, .int .u32 m10, .int .u32 m11, .int .u32 m12, .bool m13], .bool false]) (by simp [results, Tryd.results24, go_sem, c0, c1, c2, c3, c4, c5, c6, c7, c8, c9, c10, c11, c12]) rfl ?_
    rw [HPK.out, HTE.out]
    have hne : ∀ q, RfOwn n X V q → q ≠ h8 := HO2.out V fun q hq => .inl hq
    refine ⟨rfl, V, HB2.out.keep HMZ.out (fun q hq (e : q = h8) => hne q hq e) (fun q (hq : q = h8) => by have := HLE.out; have := HB0.out.below.size; omega), (Mods.of_below (S := RfOwn n X V) HW2.out).trans HMZ.out fun q hl (hq : q = h8) => by have := HLE.out; omega, fun q hq => .inl hq⟩
  | true =>
    obtain ⟨hpo, kn, hkn, hkl, hkm⟩ := peek_ok HPK.out
    subst hkn
    have HTE := Lib.hid (show takeF n F p c kn = updF F (placeP p c) ((F (placeP p c)).eraseIdx kn) from by rw [HTF.out, Int.toNat_natCast]; rfl)
    go_wp2_with fail
    refine (rrow_c b n room X p c w2 HH2.out (HB2.out.frm h1) h1 h2).mono ?_
    rintro ev w' ⟨rfl, hww⟩
    obtain rfl := hww
    obtain ⟨p', c', gp, op, hp', hc', hpl, hpt, hgl, ⟨cpx, hX⟩, hce, _⟩ := rowPtr_on HB2.out h1 hpo
    rw [hpt]
    rw [hpl] at hkl HTE
    have HXP := Lib.hid hX
    have HPC := Lib.hid (And.intro hp' hc')
    obtain ⟨L, hL⟩ : ∃ L, F ((p' : Int), (c' : Int)) = L := ⟨_, rfl⟩
    have HL := Lib.hid hL
    have hrow := HB2.out.row p' c' hp' hc'
    rw [hL] at hkl HTE hrow
    have hll : L.length ≤ 100000 := by rw [← hL]; exact HFL.out _
    obtain ⟨g, off, ck, hvv, hcap, _, hgw, _⟩ := hrow.form (by omega)
    rw [hvv] at hce hrow
    have hck : ck ≤ 9223372036854775807 := hrow.cap_max
    have HVV := Lib.hid hvv
    have hsl := hrow.slc
    have HSL1 := Lib.hid (slc_takeM (k := kn) hsl rfl (by omega))
    obtain ⟨ad2, hif, hsl2⟩ := slc_dropM (k := kn + 1) hsl rfl (by omega) hcap
    have HSL2 := Lib.hid hsl2
    obtain ⟨ln, hln⟩ : ∃ ln, ln = L.length := ⟨_, rfl⟩
    have HLN := Lib.hid hln
    rw [← hln] at hce hkl hcap HSL2 hll
    clear hsl hsl2 hrow hvv hpt hpl hX hp' hc' hkm hpo hln hL
    go_upto_region 4 with fail
    refine wp_region_lexN ⟨[], []⟩ (fun m x => if m ≤ 3 then Below w2.heap.size w2 x else True) (by kernel_rfl) (by kernel_rfl) (by rw [if_pos (by omega)]; exact (Below.refl _ _).drew) ?_
    intro S hto hof hne
    have hto0 : ∀ z : Wd (upS S 3), Below w2.heap.size w2 z.w := fun z => by
      obtain ⟨m, hm, hx⟩ := hto 3 z
      rw [if_pos hm] at hx
      exact hx
    have xr : ∀ z : Wd (upS S 3), z.w.cell? ⟨gp, op + c', none⟩ = some (.slice (some ⟨g, off, none⟩) ln ck) := fun z => ((hto0 z).cell (p := ⟨gp, op + c', none⟩) hgl).trans hce
    have Hof := Lib.hid hof
    have hne3 := hne 3
    have hne9 := hne 9
    clear hto hto0 hof hne hce hgl
    refine lexM_light 1 9 (by kernel_rfl) (by kernel_rfl) ?_
    simp only [List.take_succ_cons, List.take_zero, List.drop_succ_cons, List.drop_zero]
    repeat (first | go_big_quiet_skip | (go_big_quiet_want; go_big_quiet_op; go_big_quiet_on))
    refine wpQuiet_nil ?_
    refine lexM_heavy (by kernel_rfl) ?_
    go_wp2_with fail
    have hb8 : Below w2.heap.size w2 (w2.alloc (.cells #[] 32)).drew := ((Below.refl _ _).alloc (Nat.le_refl _) _).drew
    have hA1 : winRow (w2.alloc (.cells #[] 32)).drew w2.heap.size 32 13 (.slice (some ⟨w2.heap.size, 0, none⟩) 0 0) 0 [] := winRow_fresh w2 _ _
    have HA := Lib.hid hA1
    have HB8 := Lib.hid hb8
    refine lexMQ_more (Hof.out 1 _ (by rw [if_pos (by omega)]; exact hb8)) ?_
    obtain ⟨hA, hhA⟩ : ∃ h, h = w2.heap.size := ⟨_, rfl⟩
    rw [← hhA] at HA HB8 ⊢
    have HHA := Lib.hid hhA
    clear hb8 hA1 hhA
    generalize (w2.alloc (.cells #[] 32)).drew = w8 at *
    have HS8 := Lib.hid (show hA ≤ w8.heap.size by rw [HHA.out]; exact HB8.out.size)
    refine lexM_light 5 3 (by kernel_rfl) (by kernel_rfl) ?_
    simp only [List.take_succ_cons, List.take_zero, List.drop_succ_cons, List.drop_zero]
    repeat (first | go_big_quiet_skip | (go_big_quiet_want; go_big_quiet_op; go_big_quiet_on))
    refine wpQuiet_nil ?_
    refine lexM_heavy (by kernel_rfl) ?_
    go_wp2_with (at_builtin; refine wpList_append_slc _ rfl _ _ 44 rfl hA 32 i0 _ 13 80 Tryd.underlying44 HI.out HZ0.out HZ1.out HZ2.out rfl (by decide) _ 0 [] rfl HA.out _ kn (flatM (L.take kn)) rfl (HSL1.out.below (by have h := HB8.out; rw [HHA.out] at h; exact h)) (flatM_one _) (by unfold maxLen; omega) (by omega) HS8.out ?_; intro p9 w9 hown hgr hat; refine halt ?_)
    have HP9 := Lib.hid (show winRow w9 hA 32 13 p9 kn (flatM (L.take kn)) by simpa using hown)
    have HB9 := Lib.hid (HB8.out.grown hgr HS8.out fun q hq => (HA.out.lt q hq).1)
    have HS9 := Lib.hid (show hA ≤ w9.heap.size by rw [HHA.out]; exact HB9.out.size)
    clear hown hgr hat HA
    unfold Halt
    refine lexMQ_more (Hof.out 2 _ (by rw [if_pos (by omega)]; have h := HB9.out; rw [HHA.out] at h; exact h)) ?_
    refine lexM_light 6 3 (by kernel_rfl) (by kernel_rfl) ?_
    simp only [List.take_succ_cons, List.take_zero, List.drop_succ_cons, List.drop_zero]
    repeat (first | go_big_quiet_skip | (go_big_quiet_want; go_big_quiet_op; go_big_quiet_on))
    refine wpQuiet_nil ?_
    clear xr
    refine lexM_heavy (by kernel_rfl) ?_
    go_wp2_with (at_builtin; refine wpList_append_slc _ rfl _ _ 44 rfl hA 32 i0 _ 13 80 Tryd.underlying44 HI.out HZ0.out HZ1.out HZ2.out rfl (by decide) _ kn (flatM (L.take kn)) rfl HP9.out _ (ln - (kn + 1)) (flatM (L.drop (kn + 1))) rfl (HSL2.out.below (by have h := HB9.out; rw [HHA.out] at h; exact h)) (flatM_one _) (by unfold maxLen; omega) (by omega) HS9.out ?_; intro p10 w10 hown hgr hat; refine halt ?_)
    have HB10 := Lib.hid (show Below w2.heap.size w2 w10 from by have h := HB9.out.grown hgr HS9.out fun q hq => (HP9.out.lt q hq).1; rw [HHA.out] at h; exact h)
    have HLE2 := Lib.hid (show kn + (ln - (kn + 1)) = (L.eraseIdx kn).length by rw [List.length_eraseIdx_of_lt (by rw [← HLN.out]; exact hkl), ← HLN.out]; omega)
    rw [HLE2.out, ← flatM_append, ← List.eraseIdx_eq_take_drop_succ] at hown
    have HP10 := Lib.hid hown
    obtain ⟨ad3, cp3, hp3⟩ := HP10.out.len
    have HPL3 := Lib.hid hp3
    clear hp3
    clear hown hgr hat HP9 HB8 HB9 HS8 HS9 HSL1 HSL2 hif
    unfold Halt
    refine lexMQ_more (Hof.out 3 _ (by rw [if_pos (by omega)]; exact HB10.out)) ?_
    refine lexM_light 1 9 (by kernel_rfl) (by kernel_rfl) ?_
    simp only [List.take_succ_cons, List.take_zero, List.drop_succ_cons, List.drop_zero]
    repeat (first | go_big_quiet_skip | (go_big_quiet_want; go_big_quiet_op; go_big_quiet_on))
    refine wpQuiet_nil ?_
    have HBX := Lib.hid (HB2.out.bel HB10.out)
    have zf := (HBX.out.lst p' HPC.out.1).frozen HXP.out c'
    obtain ⟨g3, o3, c3, hX3, hg3, hc3⟩ := HBX.out.form h1 p' HPC.out.1
    rw [HXP.out] at hX3
    simp only [Value.slice.injEq, Option.some.injEq, Addr.mk.injEq, true_and, and_true] at hX3
    obtain ⟨⟨rfl, rfl⟩, rfl⟩ := hX3
    have zc := hc3 c' HPC.out.2
    clear hc3
    obtain ⟨vz, hvz⟩ : ∃ vz, vz = Value.slice ad3 (L.eraseIdx kn).length cp3 := ⟨_, rfl⟩
    rw [HPL3.out] at HP10 ⊢
    refine lexM_heavy (by kernel_rfl) ?_
    go_wp2_with fail
    rw [← hvz] at HP10 ⊢
    have HVZ := Lib.hid hvz
    clear hvz
    have hpost := HB2.out.put (p0 := p') (c0 := c') (v := vz) (L := L.eraseIdx kn) (w1 := w10) HPC.out.1 HPC.out.2 HXP.out (Mods.of_below HB10.out) (HP10.out.base_le fun q hq => by have h3 := (HP10.out.lt q hq).1; have h4 := HB2.out.below.size; have h5 := HHA.out; omega) (fun q hq => by have h3 := (HP10.out.lt q hq).1; have h5 := HHA.out; exact .inr (by omega))
    have HGP := Lib.hid (show gp ≠ h8 ∧ gp ≠ h10 from by
      have h3 := HOW.out gp (.inl ⟨p', HPC.out.1, by rw [HXP.out]; rfl⟩)
      have := HLE.out
      have := HN10.out
      omega)
    have HX11 := Lib.hid (show (w10.setCell ⟨gp, op + c', none⟩ vz).heap[h8]? = _ from (Below.heap_setCell _ _ _ _ fun e => HGP.out.1 e.symm).trans ((HB10.out.block h8 (Array.getElem?_eq_some_iff.1 HX2.out).1).trans HX2.out))
    have HM11 := Lib.hid (show (w10.setCell ⟨gp, op + c', none⟩ vz).heap[h10]? = _ from (Below.heap_setCell _ _ _ _ fun e => HGP.out.2 e.symm).trans ((HB10.out.block h10 (Array.getElem?_eq_some_iff.1 HM2.out).1).trans HM2.out))
    have HP11 := Lib.hid (hpost.bel HW2.out)
    have HO11 := Lib.hid (show ∀ V', (∀ q, RfOwn n X V' q → RfOwn n X V q ∨ w2.heap.size ≤ q) → ∀ q, RfOwn n X V' q → q ≠ h8 from fun V' hv q hq => by
      have h3 := (Array.getElem?_eq_some_iff.1 HX2.out).1
      rcases hv q hq with e | e
      · have := HOW.out q e
        have := HLE.out
        omega
      · omega)
    have HPQ := Lib.hid hpost
    refine lexMQ_more (Hof.out 4 _ (by rw [if_neg (by omega)]; trivial)) ?_
    refine lexM_done ?_
    clear Hof hne3 hne9 zf zc hpost
    generalize w10.setCell ⟨gp, op + c', none⟩ vz = w11 at *
    have hxq := HM11.out
    have q0 := cell_of hxq 0
    have q1 := cell_of hxq 1
    have q2 := cell_of hxq 2
    have q3 := cell_of hxq 3
    have q4 := cell_of hxq 4
    have q5 := cell_of hxq 5
    have q6 := cell_of hxq 6
    have q7 := cell_of hxq 7
    have q8 := cell_of hxq 8
    have q9 := cell_of hxq 9
    have q10 := cell_of hxq 10
    have q11 := cell_of hxq 11
    have q12 := cell_of hxq 12
    simp only [List.getElem?_toArray, List.getElem?_cons_zero, List.getElem?_cons_succ] at q0 q1 q2 q3 q4 q5 q6 q7 q8 q9 q10 q11 q12
    have hlq := (Array.getElem?_eq_some_iff.1 hxq).1
    have hxr := HX11.out
    have r0 := cell_of hxr 0
    have r1 := cell_of hxr 1
    have r2 := cell_of hxr 2
    have r3 := cell_of hxr 3
    have r4 := cell_of hxr 4
    have r5 := cell_of hxr 5
    have r6 := cell_of hxr 6
    have r7 := cell_of hxr 7
    have r8 := cell_of hxr 8
    have r9 := cell_of hxr 9
    have r10 := cell_of hxr 10
    have r11 := cell_of hxr 11
    have r12 := cell_of hxr 12
    simp only [List.getElem?_toArray, List.getElem?_cons_zero, List.getElem?_cons_succ] at r0 r1 r2 r3 r4 r5 r6 r7 r8 r9 r10 r11 r12
    have hlr := (Array.getElem?_eq_some_iff.1 hxr).1
    have zr0 := frozen_of hxr 0
    have zr1 := frozen_of hxr 1
    have zr2 := frozen_of hxr 2
    have zr3 := frozen_of hxr 3
    have zr4 := frozen_of hxr 4
    have zr5 := frozen_of hxr 5
    have zr6 := frozen_of hxr 6
    have zr7 := frozen_of hxr 7
    have zr8 := frozen_of hxr 8
    have zr9 := frozen_of hxr 9
    have zr10 := frozen_of hxr 10
    have zr11 := frozen_of hxr 11
    have zr12 := frozen_of hxr 12
    go_wp2_with fail
    rw [← set13 w11 h8]
    have hz := block13 hxr (.int .i64 m1) (.int .i64 m2) (.int .i64 m3) (.int .i64 m4) (.int .i64 m5) (.int .i64 m6) (.int .i64 m7) (.int .u32 m8) (.int .u32 m9) (.int .u32 m10) (.int .u32 m11) (.int .u32 m12) (.bool m13)
    have HMZ := Lib.hid (mods13 w11 h8 (.int .i64 m1) (.int .i64 m2) (.int .i64 m3) (.int .i64 m4) (.int .i64 m5) (.int .i64 m6) (.int .i64 m7) (.int .u32 m8) (.int .u32 m9) (.int .u32 m10) (.int .u32 m11) (.int .u32 m12) (.bool m13))
    clear hxq hlq q0 q1 q2 q3 q4 q5 q6 q7 q8 q9 q10 q11 q12
    clear hxr hlr r0 r1 r2 r3 r4 r5 r6 r7 r8 r9 r10 r11 r12 zr0 zr1 zr2 zr3 zr4 zr5 zr6 zr7 zr8 zr9 zr10 zr11 zr12
    generalize w11.setCells h8 0 [.int .i64 m1, .int .i64 m2, .int .i64 m3, .int .i64 m4, .int .i64 m5, .int .i64 m6, .int .i64 m7, .int .u32 m8, .int .u32 m9, .int .u32 m10, .int .u32 m11, .int .u32 m12, .bool m13] = wz at *
    have c0 := cell_of hz 0
    have c1 := cell_of hz 1
    have c2 := cell_of hz 2
    have c3 := cell_of hz 3
    have c4 := cell_of hz 4
    have c5 := cell_of hz 5
    have c6 := cell_of hz 6
    have c7 := cell_of hz 7
    have c8 := cell_of hz 8
    have c9 := cell_of hz 9
    have c10 := cell_of hz 10
    have c11 := cell_of hz 11
    have c12 := cell_of hz 12
    simp only [List.getElem?_toArray, List.getElem?_cons_zero, List.getElem?_cons_succ] at c0 c1 c2 c3 c4 c5 c6 c7 c8 c9 c10 c11 c12
    refine bodyPost_ret_by (v := .tuple #[.agg #[.int .i64 m1, .int .i64 m2, .int .i64 m3, .int .i64 m4, .int .i64 m5, .int .i64 m6, .int .i64 m7, .int .u32 m8, .int .u32 m9, .int .u32 m10, .int .u32 m11, .int .u32 m12, .bool m13], .bool true]) (by simp [results, Tryd.results24, go_sem, c0, c1, c2, c3, c4, c5, c6, c7, c8, c9, c10, c11, c12]) rfl ?_
    rw [HPK.out, HTE.out]
    obtain ⟨V', e1, e2, e3⟩ := HPQ.out
    have hne : ∀ q, RfOwn n X V' q → q ≠ h8 := HO11.out V' e3
    refine ⟨rfl, V', e1.keep HMZ.out (fun q hq (e : q = h8) => hne q hq e) (fun q (hq : q = h8) => by have := HLE.out; have := HB0.out.below.size; omega), ((Mods.of_below (S := RfOwn n X V) HW2.out).trans e2 fun _ _ h => h).trans HMZ.out fun q hl (hq : q = h8) => by have := HLE.out; omega, fun q hq => (e3 q hq).imp id fun e => Nat.le_trans HW2.out.size e⟩

end Go.Proofs.YtbefkkefglkleaaDoor
