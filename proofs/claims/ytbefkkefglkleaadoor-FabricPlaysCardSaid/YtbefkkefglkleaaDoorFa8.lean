/- The fabric's Take. -/
import Derived.Test.YtbefkkefglkleaaDoorFa3
import Derived.Test.YtbefkkefglkleaaDoorFa6
import Derived.Test.YtbefkkefglkleaaDoorFa7
import Derived.Test.YtbefkkefglkleaaDoorLexN
namespace Go.Proofs.YtbefkkefglkleaaDoor
open Go.RowKit Go.Extern.Stop Go.Stop Go.Extern

/-- What waits behind a Take. -/
def takeF (cores : Int) (F : Plc → List MsgV) (p c k : Int) : Plc → List MsgV := if (peekP cores F p c k).2 then updF F (placeP p c) ((F (placeP p c)).eraseIdx k.toNat) else F
def tookN (cores : Int) (F : Plc → List MsgV) (p c k : Int) : Nat := if (peekP cores F p c k).2 then 1 else 0
theorem peek_ok {cores : Int} {F : Plc → List MsgV} {p c k : Int} {M : MsgV} (h : peekP cores F p c k = (M, true)) : placeOk cores p c = true ∧ ∃ kn : Nat, k = kn ∧ kn < (F (placeP p c)).length ∧ (F (placeP p c))[kn]? = some M := by
  unfold peekP at h
  by_cases hc : placeOk cores p c = true ∧ 0 ≤ k ∧ k < ((F (placeP p c)).length : Int)
  · rw [if_pos hc] at h
    obtain ⟨h1, h2, h3⟩ := hc
    obtain ⟨kn, rfl⟩ := Int.eq_ofNat_of_zero_le h2
    have hl : kn < (F (placeP p c)).length := by omega
    refine ⟨h1, kn, rfl, hl, ?_⟩
    have h4 := (Prod.mk.inj h).1
    rw [Int.toNat_natCast, List.getElem?_eq_getElem hl] at h4
    rw [List.getElem?_eq_getElem hl]
    exact congrArg some h4
  · rw [if_neg hc] at h
    cases (Prod.mk.inj h).2
theorem winRow.cap_max {w : World} {base size n g off cap : Nat} {e : TypeId} {xs : List Value} (h : winRow w base e size (.slice (some ⟨g, off, none⟩) n cap) n xs) : cap ≤ 9223372036854775807 := by
  rcases h.2 with ⟨h2, _⟩ | ⟨_, _, _, _, hv, _, _, _, hm, _, _⟩
  · cases h2
  · simp only [Value.slice.injEq, true_and] at hv
    rw [hv.2]
    unfold maxLen at hm
    omega
/-- The blocks of a fabric that its calls turn. -/
def FbOwn (E : List (Plc × Value)) (r : Nat) (q : Nat) : Prop := q = r ∨ ∃ k, (getV nilS E k).ownBlock = some q
/-- A call that leaves another fabric. -/
def FbPost (w0 : World) (b r : Nat) (cores room : Int) (E : List (Plc × Value)) (F F' : Plc → List MsgV) (w : World) (d : Nat) (a : Nat) (w' : World) : Prop :=
  ∃ E', FbE w0 b r cores room E' F' w' ∧ Mods (FbOwn E r) w w' ∧ (∀ q, FbOwn E' r q → FbOwn E r q ∨ w.heap.size ≤ q) ∧ totF E' F' + d = totF E F + a

set_option maxRecDepth 100000 in
set_option maxHeartbeats 4000000 in
theorem ftake_c (w0 : World) (b r : Nat) (cores room p c k : Int) (E : List (Plc × Value)) (F : Plc → List MsgV) (w : World) (h : FbE w0 b r cores room E F w) :
    Calls Tryd.prog 13 #[.pointer (some ⟨b, 0, none⟩), .int .i64 p, .int .i64 c, .int .i64 k] w fun ev w' => ev = .returned (.tuple #[(peekP cores F p c k).1.v, .bool (peekP cores F p c k).2]) ∧ FbPost w0 b r cores room E F (takeF cores F p c k) w (tookN cores F p c k) 0 w' := by
  have HF := Lib.hid h
  have HOW := Lib.hid (fun (k : Plc) (g : Nat) (hg : (getV nilS E k).ownBlock = some g) => ((h.rows k).lt g hg).2)
  have hba : Below w.heap.size w (w.alloc (.cells #[.int .i64 0, .int .i64 0, .int .i64 0, .int .i64 0, .int .i64 0, .int .i64 0, .int .i64 0, .int .u32 0, .int .u32 0, .int .u32 0, .int .u32 0, .int .u32 0, .bool false] 32)) := (Below.refl _ _).alloc (Nat.le_refl _) _
  have HBA := Lib.hid hba
  have HXA := Lib.hid (heap_alloc_new w (.cells #[.int .i64 0, .int .i64 0, .int .i64 0, .int .i64 0, .int .i64 0, .int .i64 0, .int .i64 0, .int .u32 0, .int .u32 0, .int .u32 0, .int .u32 0, .int .u32 0, .bool false] 32))
  have HFA := Lib.hid (h.bel hba)
  clear h hba
  go_enter Tryd.func13, Tryd.ntmps13
  go_upto_region 1 with fail
  obtain ⟨h8, hh8⟩ : ∃ h, h = w.heap.size := ⟨_, rfl⟩
  have HLE := Lib.hid (show w.heap.size ≤ h8 ∧ b < h8 ∧ r < h8 from by have := HF.out.lt; omega)
  rw [← hh8] at HXA ⊢
  generalize w.alloc (.cells #[.int .i64 0, .int .i64 0, .int .i64 0, .int .i64 0, .int .i64 0, .int .i64 0, .int .i64 0, .int .u32 0, .int .u32 0, .int .u32 0, .int .u32 0, .int .u32 0, .bool false] 32) = wa at *
  clear hh8
  go_wp2_with fail
  refine (fpeek_c w0 b r cores room p c k E F wa HFA.out).mono ?_
  rintro ev w1 ⟨rfl, hb1⟩
  have HF1 := Lib.hid (HFA.out.bel hb1)
  have HB1 := Lib.hid (HBA.out.trans (hb1.mono HBA.out.size))
  have HX1 := Lib.hid ((hb1.block h8 (Array.getElem?_eq_some_iff.1 HXA.out).1).trans HXA.out)
  have HTF := Lib.hid (show takeF cores F p c k = if (peekP cores F p c k).2 then updF F (placeP p c) ((F (placeP p c)).eraseIdx k.toNat) else F from rfl)
  have HTN := Lib.hid (show tookN cores F p c k = if (peekP cores F p c k).2 then 1 else 0 from rfl)
  obtain ⟨pk, hpk⟩ : ∃ pk, peekP cores F p c k = pk := ⟨_, rfl⟩
  have HPK := Lib.hid hpk
  rw [hpk] at HTF HTN ⊢
  clear hb1 HFA HBA HXA hpk
  obtain ⟨M, ok⟩ := pk
  obtain ⟨m1, m2, m3, m4, m5, m6, m7, m8, m9, m10, m11, m12, m13⟩ := M
  simp only [MsgV.v]
  go_upto_region 2 with fail
  have hb2 : Below w1.heap.size w1 (w1.alloc (.cells #[.int .i64 m1, .int .i64 m2, .int .i64 m3, .int .i64 m4, .int .i64 m5, .int .i64 m6, .int .i64 m7, .int .u32 m8, .int .u32 m9, .int .u32 m10, .int .u32 m11, .int .u32 m12, .bool m13] 32)) := (Below.refl _ _).alloc (Nat.le_refl _) _
  have HF2 := Lib.hid (HF1.out.bel hb2)
  have HB2 := Lib.hid (HB1.out.trans (hb2.mono HB1.out.size))
  have HX2 := Lib.hid ((hb2.block h8 (Array.getElem?_eq_some_iff.1 HX1.out).1).trans HX1.out)
  have HM2 := Lib.hid (heap_alloc_new w1 (.cells #[.int .i64 m1, .int .i64 m2, .int .i64 m3, .int .i64 m4, .int .i64 m5, .int .i64 m6, .int .i64 m7, .int .u32 m8, .int .u32 m9, .int .u32 m10, .int .u32 m11, .int .u32 m12, .bool m13] 32))
  obtain ⟨h10, hh10⟩ : ∃ h, h = w1.heap.size := ⟨_, rfl⟩
  have HN10 := Lib.hid (show h10 ≠ h8 ∧ h8 < h10 from by have := (Array.getElem?_eq_some_iff.1 HX1.out).1; omega)
  rw [← hh10] at HM2 ⊢
  generalize w1.alloc (.cells #[.int .i64 m1, .int .i64 m2, .int .i64 m3, .int .i64 m4, .int .i64 m5, .int .i64 m6, .int .i64 m7, .int .u32 m8, .int .u32 m9, .int .u32 m10, .int .u32 m11, .int .u32 m12, .bool m13] 32) = w2 at *
  clear hb2 hh10 HF1 HB1 HX1
  cases ok with
  | false =>
    have HTE := Lib.hid (show takeF cores F p c k = F from HTF.out)
    have hxq := HM2.out
    have q0 := cell_of hxq 0
    have q1 := cell_of hxq 1
    have q2 := cell_of hxq 2
    have q3 := cell_of hxq 3
    have q4 := cell_of hxq 4
    have q5 := cell_of hxq 5
    have q6 := cell_of hxq 6
    have q7 := cell_of hxq 7
    have q8 := cell_of hxq 8
    have q9 := cell_of hxq 9
    have q10 := cell_of hxq 10
    have q11 := cell_of hxq 11
    have q12 := cell_of hxq 12
    simp only [List.getElem?_toArray, List.getElem?_cons_zero, List.getElem?_cons_succ] at q0 q1 q2 q3 q4 q5 q6 q7 q8 q9 q10 q11 q12
    have hlq := (Array.getElem?_eq_some_iff.1 hxq).1
    have hxr := HX2.out
    have r0 := cell_of hxr 0
    have r1 := cell_of hxr 1
    have r2 := cell_of hxr 2
    have r3 := cell_of hxr 3
    have r4 := cell_of hxr 4
    have r5 := cell_of hxr 5
    have r6 := cell_of hxr 6
    have r7 := cell_of hxr 7
    have r8 := cell_of hxr 8
    have r9 := cell_of hxr 9
    have r10 := cell_of hxr 10
    have r11 := cell_of hxr 11
    have r12 := cell_of hxr 12
    simp only [List.getElem?_toArray, List.getElem?_cons_zero, List.getElem?_cons_succ] at r0 r1 r2 r3 r4 r5 r6 r7 r8 r9 r10 r11 r12
    have hlr := (Array.getElem?_eq_some_iff.1 hxr).1
    have zr0 := frozen_of hxr 0
    have zr1 := frozen_of hxr 1
    have zr2 := frozen_of hxr 2
    have zr3 := frozen_of hxr 3
    have zr4 := frozen_of hxr 4
    have zr5 := frozen_of hxr 5
    have zr6 := frozen_of hxr 6
    have zr7 := frozen_of hxr 7
    have zr8 := frozen_of hxr 8
    have zr9 := frozen_of hxr 9
    have zr10 := frozen_of hxr 10
    have zr11 := frozen_of hxr 11
    have zr12 := frozen_of hxr 12
    go_wp2_with fail
    rw [← set13 w2 h8]
    have hz := block13 hxr (.int .i64 m1) (.int .i64 m2) (.int .i64 m3) (.int .i64 m4) (.int .i64 m5) (.int .i64 m6) (.int .i64 m7) (.int .u32 m8) (.int .u32 m9) (.int .u32 m10) (.int .u32 m11) (.int .u32 m12) (.bool m13)
    have HBZ := Lib.hid (HB2.out.trans ((mods13 w2 h8 (.int .i64 m1) (.int .i64 m2) (.int .i64 m3) (.int .i64 m4) (.int .i64 m5) (.int .i64 m6) (.int .i64 m7) (.int .u32 m8) (.int .u32 m9) (.int .u32 m10) (.int .u32 m11) (.int .u32 m12) (.bool m13)).below HB2.out.size fun q (hq : q = h8) => by have := HLE.out.1; omega))
    clear hxq hlq q0 q1 q2 q3 q4 q5 q6 q7 q8 q9 q10 q11 q12
    clear hxr hlr r0 r1 r2 r3 r4 r5 r6 r7 r8 r9 r10 r11 r12 zr0 zr1 zr2 zr3 zr4 zr5 zr6 zr7 zr8 zr9 zr10 zr11 zr12
    generalize w2.setCells h8 0 [.int .i64 m1, .int .i64 m2, .int .i64 m3, .int .i64 m4, .int .i64 m5, .int .i64 m6, .int .i64 m7, .int .u32 m8, .int .u32 m9, .int .u32 m10, .int .u32 m11, .int .u32 m12, .bool m13] = wz at *
    go_wp2_with fail
    have c0 := cell_of hz 0
    have c1 := cell_of hz 1
    have c2 := cell_of hz 2
    have c3 := cell_of hz 3
    have c4 := cell_of hz 4
    have c5 := cell_of hz 5
    have c6 := cell_of hz 6
    have c7 := cell_of hz 7
    have c8 := cell_of hz 8
    have c9 := cell_of hz 9
    have c10 := cell_of hz 10
    have c11 := cell_of hz 11
    have c12 := cell_of hz 12
    simp only [List.getElem?_toArray, List.getElem?_cons_zero, List.getElem?_cons_succ] at c0 c1 c2 c3 c4 c5 c6 c7 c8 c9 c10 c11 c12
    refine bodyPost_ret_by (v := .tuple #[.agg #[.int .i64 m1, .int .i64 m2, .int .i64 m3, .int .i64 m4, .int .i64 m5, .int .i64 m6, .int .i64 m7, .int .u32 m8, .int .u32 m9, .int .u32 m10, .int .u32 m11, .int .u32 m12, .bool m13], .bool false]) (by simp [results, Tryd.results13, go_sem, c0, c1, c2, c3, c4, c5, c6, c7, c8, c9, c10, c11, c12]) rfl ?_
    rw [HPK.out, HTE.out, HTN.out]
    exact ⟨rfl, E, HF.out.bel HBZ.out, Mods.of_below HBZ.out, fun q hq => .inl hq, rfl⟩
  | true =>
    have HTE := Lib.hid (show takeF cores F p c k = updF F (placeP p c) ((F (placeP p c)).eraseIdx k.toNat) from HTF.out)
    obtain ⟨hpo, kn, hkn, hkl, hkm⟩ := peek_ok HPK.out
    subst hkn
    have g0 := cell_of HF2.out.blk 0
    simp only [List.getElem?_toArray, List.getElem?_cons_zero] at g0
    go_wp2_with fail
    refine (at_c b cores p c w2 g0).mono ?_
    rintro ev w3 ⟨rfl, hb3⟩
    generalize hk : placeP p c = kk at *
    obtain ⟨kp, kc⟩ := kk
    simp only [keyV, Int.toNat_natCast] at HTE ⊢
    have HF3 := Lib.hid (HF2.out.bel hb3)
    have HB3 := Lib.hid (HB2.out.trans (hb3.mono HB2.out.size))
    have HX3 := Lib.hid ((hb3.block h8 (Array.getElem?_eq_some_iff.1 HX2.out).1).trans HX2.out)
    have HM3 := Lib.hid ((hb3.block h10 (Array.getElem?_eq_some_iff.1 HM2.out).1).trans HM2.out)
    clear hb3 g0 HX2 HM2
    go_upto_region 4 with fail
    have hb4 : Below w3.heap.size w3 (w3.alloc (.cells #[.int .i64 kp, .int .i64 kc] 70)) := (Below.refl _ _).alloc (Nat.le_refl _) _
    have HF4 := Lib.hid (HF3.out.bel hb4)
    have HB4 := Lib.hid (HB3.out.trans (hb4.mono HB3.out.size))
    have HX4 := Lib.hid ((hb4.block h8 (Array.getElem?_eq_some_iff.1 HX3.out).1).trans HX3.out)
    have HM4 := Lib.hid ((hb4.block h10 (Array.getElem?_eq_some_iff.1 HM3.out).1).trans HM3.out)
    have HP4 := Lib.hid (heap_alloc_new w3 (.cells #[.int .i64 kp, .int .i64 kc] 70))
    obtain ⟨h12, hh12⟩ : ∃ h, h = w3.heap.size := ⟨_, rfl⟩
    have HN12 := Lib.hid (show h10 < h12 from by have := (Array.getElem?_eq_some_iff.1 HM3.out).1; omega)
    rw [← hh12] at HP4 ⊢
    generalize w3.alloc (.cells #[.int .i64 kp, .int .i64 kc] 70) = w4 at *
    clear hb4 hh12 HF3 HB3 HX3 HM3 HF2 HB2
    have HKL := Lib.hid hkl
    have hrow := HF4.out.rows (kp, kc)
    have hown := HF4.out.own (kp, kc)
    have HVV := Lib.hid (show getV nilS E (kp, kc) = getV nilS E (kp, kc) from rfl)
    obtain ⟨vv, hvv⟩ : ∃ vv, getV nilS E (kp, kc) = vv := ⟨_, rfl⟩
    have HVE := Lib.hid hvv
    rw [hvv] at hrow hown
    obtain ⟨L, hL⟩ : ∃ L, F (kp, kc) = L := ⟨_, rfl⟩
    have HL := Lib.hid hL
    rw [hL] at hrow hkl hkm HTE
    have HOL := Lib.hid (HOW.out (kp, kc))
    rw [hvv] at HOL
    clear hvv hL HVV
    obtain ⟨g, off, ck, rfl, hcap, hgw, hgl, _⟩ := hrow.form (by omega)
    obtain ⟨hgb, hgr⟩ := hown g rfl
    have HROW := Lib.hid hrow
    have hcx := hrow.cap_max
    have hk9 : (kn : Int) + 1 ≤ 9223372036854775807 := by omega
    have hk8 : 0 ≤ (kn : Int) := by omega
    have hlb := HF4.out.lt.1
    have hlr := HF4.out.lt.2
    have hgo : g < w.heap.size := HOL.out g rfl
    have hle := HLE.out
    have hn10 := HN10.out
    have hn12 := HN12.out
    have hbr := HF4.out.ne
    have hxb := HF4.out.blk
    have g2 := cell_of hxb 2
    have hxp := HP4.out
    have p0 := cell_of hxp 0
    have p1 := cell_of hxp 1
    simp only [List.getElem?_toArray, List.getElem?_cons_zero, List.getElem?_cons_succ] at g2 p0 p1
    have hlp := (Array.getElem?_eq_some_iff.1 hxp).1
    have np : h12 ≠ g := by omega
    have nb : b ≠ g := fun e => hgb e.symm
    refine wp_region_lexN ⟨[], []⟩ (fun n x => if n = 0 then Below w4.heap.size w4 x else if n = 1 then Mods (fun q => q = g) w4 x else True) (by kernel_rfl) (by kernel_rfl) (by rw [if_pos rfl]; exact (Below.refl _ _).drew) ?_
    intro S hto hof hne
    have hto0 : ∀ z : Wd (upS S 0), Below w4.heap.size w4 z.w := fun z => by
      obtain ⟨m, hm, hx⟩ := hto 0 z
      obtain rfl : m = 0 := by omega
      rw [if_pos rfl] at hx
      exact hx
    have hto1 : ∀ z : Wd (upS S 1), Mods (fun q => q = g) w4 z.w := fun z => by
      obtain ⟨m, hm, hx⟩ := hto 1 z
      by_cases h0 : m = 0
      · rw [if_pos h0] at hx
        exact Mods.of_below hx
      · rw [if_neg h0, if_pos (by omega)] at hx
        exact hx
    have xa : ∀ z : Wd (upS S 0), z.w.cell? ⟨b, 2, none⟩ = some (.map (some r)) := fun z => ((hto0 z).cell (p := ⟨b, 2, none⟩) hlb).trans g2
    have ya : ∀ z : Wd (upS S 0), z.w.cell? ⟨h12, 0, none⟩ = some (.int .i64 kp) := fun z => ((hto0 z).cell (p := ⟨h12, 0, none⟩) hlp).trans p0
    have za : ∀ z : Wd (upS S 0), z.w.cell? ⟨h12, 1, none⟩ = some (.int .i64 kc) := fun z => ((hto0 z).cell (p := ⟨h12, 1, none⟩) hlp).trans p1
    have xb : ∀ z : Wd (upS S 1), z.w.cell? ⟨b, 2, none⟩ = some (.map (some r)) := fun z => ((hto1 z).cell (p := ⟨b, 2, none⟩) hlb nb).trans g2
    have yb : ∀ z : Wd (upS S 1), z.w.cell? ⟨h12, 0, none⟩ = some (.int .i64 kp) := fun z => ((hto1 z).cell (p := ⟨h12, 0, none⟩) hlp np).trans p0
    have zb : ∀ z : Wd (upS S 1), z.w.cell? ⟨h12, 1, none⟩ = some (.int .i64 kc) := fun z => ((hto1 z).cell (p := ⟨h12, 1, none⟩) hlp np).trans p1
    have hlook : ∀ z : Wd (upS S 0), (Instr.lookup 66 (.map (some r)) (.agg #[.int .i64 kp, .int .i64 kc]) false).run Tryd.prog z.w = .ok (.slice (some ⟨g, off, none⟩) L.length ck) z.w := fun z => by
      rw [← HVE.out]
      exact run_lookPlc 66 44 nilS (kp, kc) E r z.w Tryd.underlying66 (by kernel_rfl) (HF4.out.bel (hto0 z)).map
    have Hof := Lib.hid hof
    have hne0 := hne 0
    have hne1 := hne 1
    clear hto hto0 hto1 hof hne g2 p0 p1 hxb hxp hown hrow
    refine lexM_light 5 1 (by kernel_rfl) (by kernel_rfl) ?_
    simp only [List.take_succ_cons, List.take_zero, List.drop_succ_cons, List.drop_zero]
    repeat (first | go_big_quiet_skip | (go_big_quiet_want; go_big_quiet_op; go_big_quiet_on))
    refine wpQuiet_nil ?_
    refine lexM_light 9 0 (by kernel_rfl) (by kernel_rfl) ?_
    simp only [List.take_succ_cons, List.take_zero, List.drop_succ_cons, List.drop_zero]
    repeat (first | go_big_quiet_skip | (go_big_quiet_want; go_big_quiet_op; go_big_quiet_on))
    refine wpQuiet_nil ?_
    refine lexM_heavy (by kernel_rfl) ?_
    go_wp2_with fail
    refine (del_c w0.heap.size g off ck kn L w4.drew (HROW.out.below (Below.refl _ _).drew) hkl).mono ?_
    rintro ev w5 ⟨rfl, hr5, hM5⟩
    have HM5 := Lib.hid (show Mods (fun q => q = g) w4 w5 from (Mods.refl (fun q => q = g) w4).drew.trans hM5 fun _ _ h => h)
    have HR5 := Lib.hid hr5
    clear hr5 hM5
    go_wp2_with fail
    refine lexMQ_more (Hof.out 1 _ (by rw [if_neg (by omega), if_pos rfl]; exact HM5.out)) ?_
    have hmap5 : MapAt w5 r E := (HM5.out.block r hlr (fun e => hgr e.symm)).trans HF4.out.map
    obtain ⟨w6, hup, hm6, hM6⟩ := run_updPlc 66 44 (kp, kc) (.slice (some ⟨g, off, none⟩) (L.length - 1) ck) E r w5 Tryd.underlying66 hmap5
    simp only [keyV] at hup
    clear hmap5
    refine lexM_heavy (by kernel_rfl) ?_
    go_wp2_with fail
    refine lexMQ_more (Hof.out 2 _ (by rw [if_neg (by omega), if_neg (by omega)]; trivial)) ?_
    refine lexM_done ?_
    clear xa ya za xb yb zb hlook Hof hne0 hne1 hup
    obtain ⟨v6, hv6⟩ : ∃ v, v = Value.slice (some ⟨g, off, none⟩) (L.length - 1) ck := ⟨_, rfl⟩
    have hr6 : winRow w6 w0.heap.size 32 13 v6 (L.eraseIdx kn).length (flatM (L.eraseIdx kn)) := by
      rw [hv6, List.length_eraseIdx_of_lt hkl]
      exact HR5.out.keep fun q hq => hM6.block q (HR5.out.lt q hq).2 (fun e => by
        have hq : some g = some q := hq
        have := Option.some.inj hq
        exact hgr (by rw [this]; exact e))
    rw [← hv6] at hm6
    have hMM : Mods (fun q => q = r ∨ q = g) w4 w6 := (show Mods (fun q => q = r ∨ q = g) w4 w5 from ⟨HM5.out.os, HM5.out.tape, HM5.out.output, HM5.out.size, fun k hk hn => HM5.out.block k hk fun e => hn (.inr e)⟩).trans hM6 fun _ _ h => .inl h
    have HMM := Lib.hid hMM
    have HF6 := Lib.hid (HF4.out.put (kp, kc) v6 (L.eraseIdx kn) hMM (fun q hq => hq.elim .inl fun e => .inr (by rw [HVE.out, e]; rfl)) hm6 hr6 (fun q hq => .inl (by rw [HVE.out]; rw [hv6] at hq; exact hq)))
    have HTO := Lib.hid (HF4.out.tot (kp, kc) v6 (L.eraseIdx kn))
    have HOV := Lib.hid (show ∀ k q, (getV nilS (putV E (kp, kc) v6) k).ownBlock = some q → ∃ k', (getV nilS E k').ownBlock = some q from fun k q hq => by
      rw [getV_put] at hq
      by_cases hk : k = (kp, kc)
      · rw [if_pos hk, hv6] at hq
        exact ⟨(kp, kc), by rw [HVE.out]; exact hq⟩
      · rw [if_neg hk] at hq
        exact ⟨k, hq⟩)
    have HX6 := Lib.hid ((hMM.block h8 (Array.getElem?_eq_some_iff.1 HX4.out).1 (by omega)).trans HX4.out)
    have HQ6 := Lib.hid ((hMM.block h10 (Array.getElem?_eq_some_iff.1 HM4.out).1 (by omega)).trans HM4.out)
    have HEL := Lib.hid (List.length_eraseIdx_of_lt hkl)
    clear hr6 hm6 hMM hM6 HR5 HM5 hv6 hlb hlr hgl hlp np nb hcap
    have hxq := HQ6.out
    have q0 := cell_of hxq 0
    have q1 := cell_of hxq 1
    have q2 := cell_of hxq 2
    have q3 := cell_of hxq 3
    have q4 := cell_of hxq 4
    have q5 := cell_of hxq 5
    have q6 := cell_of hxq 6
    have q7 := cell_of hxq 7
    have q8 := cell_of hxq 8
    have q9 := cell_of hxq 9
    have q10 := cell_of hxq 10
    have q11 := cell_of hxq 11
    have q12 := cell_of hxq 12
    simp only [List.getElem?_toArray, List.getElem?_cons_zero, List.getElem?_cons_succ] at q0 q1 q2 q3 q4 q5 q6 q7 q8 q9 q10 q11 q12
    have hlq := (Array.getElem?_eq_some_iff.1 hxq).1
    have hxr := HX6.out
    have r0 := cell_of hxr 0
    have r1 := cell_of hxr 1
    have r2 := cell_of hxr 2
    have r3 := cell_of hxr 3
    have r4 := cell_of hxr 4
    have r5 := cell_of hxr 5
    have r6 := cell_of hxr 6
    have r7 := cell_of hxr 7
    have r8 := cell_of hxr 8
    have r9 := cell_of hxr 9
    have r10 := cell_of hxr 10
    have r11 := cell_of hxr 11
    have r12 := cell_of hxr 12
    simp only [List.getElem?_toArray, List.getElem?_cons_zero, List.getElem?_cons_succ] at r0 r1 r2 r3 r4 r5 r6 r7 r8 r9 r10 r11 r12
    have hlr := (Array.getElem?_eq_some_iff.1 hxr).1
    have zr0 := frozen_of hxr 0
    have zr1 := frozen_of hxr 1
    have zr2 := frozen_of hxr 2
    have zr3 := frozen_of hxr 3
    have zr4 := frozen_of hxr 4
    have zr5 := frozen_of hxr 5
    have zr6 := frozen_of hxr 6
    have zr7 := frozen_of hxr 7
    have zr8 := frozen_of hxr 8
    have zr9 := frozen_of hxr 9
    have zr10 := frozen_of hxr 10
    have zr11 := frozen_of hxr 11
    have zr12 := frozen_of hxr 12
    go_wp2_with fail
    rw [← set13 w6 h8]
    have hz := block13 hxr (.int .i64 m1) (.int .i64 m2) (.int .i64 m3) (.int .i64 m4) (.int .i64 m5) (.int .i64 m6) (.int .i64 m7) (.int .u32 m8) (.int .u32 m9) (.int .u32 m10) (.int .u32 m11) (.int .u32 m12) (.bool m13)
    have HMZ := Lib.hid (mods13 w6 h8 (.int .i64 m1) (.int .i64 m2) (.int .i64 m3) (.int .i64 m4) (.int .i64 m5) (.int .i64 m6) (.int .i64 m7) (.int .u32 m8) (.int .u32 m9) (.int .u32 m10) (.int .u32 m11) (.int .u32 m12) (.bool m13))
    clear hxq hlq q0 q1 q2 q3 q4 q5 q6 q7 q8 q9 q10 q11 q12
    clear hxr hlr r0 r1 r2 r3 r4 r5 r6 r7 r8 r9 r10 r11 r12 zr0 zr1 zr2 zr3 zr4 zr5 zr6 zr7 zr8 zr9 zr10 zr11 zr12
    generalize w6.setCells h8 0 [.int .i64 m1, .int .i64 m2, .int .i64 m3, .int .i64 m4, .int .i64 m5, .int .i64 m6, .int .i64 m7, .int .u32 m8, .int .u32 m9, .int .u32 m10, .int .u32 m11, .int .u32 m12, .bool m13] = wz at *
    go_wp2_with fail
    have c0 := cell_of hz 0
    have c1 := cell_of hz 1
    have c2 := cell_of hz 2
    have c3 := cell_of hz 3
    have c4 := cell_of hz 4
    have c5 := cell_of hz 5
    have c6 := cell_of hz 6
    have c7 := cell_of hz 7
    have c8 := cell_of hz 8
    have c9 := cell_of hz 9
    have c10 := cell_of hz 10
    have c11 := cell_of hz 11
    have c12 := cell_of hz 12
    simp only [List.getElem?_toArray, List.getElem?_cons_zero, List.getElem?_cons_succ] at c0 c1 c2 c3 c4 c5 c6 c7 c8 c9 c10 c11 c12
    refine bodyPost_ret_by (v := .tuple #[.agg #[.int .i64 m1, .int .i64 m2, .int .i64 m3, .int .i64 m4, .int .i64 m5, .int .i64 m6, .int .i64 m7, .int .u32 m8, .int .u32 m9, .int .u32 m10, .int .u32 m11, .int .u32 m12, .bool m13], .bool true]) (by simp [results, Tryd.results13, go_sem, c0, c1, c2, c3, c4, c5, c6, c7, c8, c9, c10, c11, c12]) rfl ?_
    rw [HPK.out, HTE.out, HTN.out]
    refine ⟨rfl, putV E (kp, kc) v6, HF6.out.keep HMZ.out (by omega) (by omega) (fun k q hq (e : q = h8) => ?_) (fun q (hq : q = h8) => ?_), ?_, fun q hq => .inl ?_, ?_⟩
    · obtain ⟨k', hk'⟩ := HOV.out k q hq
      have := HOW.out k' q hk'
      omega
    · have := HF.out.below.size
      omega
    · have h1 : Mods (FbOwn E r) w w6 := (Mods.of_below (S := FbOwn E r) HB4.out).trans HMM.out fun q _ hq => hq.elim .inl fun e => .inr ⟨(kp, kc), by rw [HVE.out, e]; rfl⟩
      exact h1.trans HMZ.out fun q hl (hq : q = h8) => by omega
    · rcases hq with e | ⟨k', hk'⟩
      · exact .inl e
      · exact .inr (HOV.out k' q hk')
    · have h1 := HTO.out
      rw [HL.out, HEL.out] at h1
      show totF (putV E (kp, kc) v6) (updF F (kp, kc) (L.eraseIdx kn)) + 1 = totF E F + 0
      omega

end Go.Proofs.YtbefkkefglkleaaDoor
