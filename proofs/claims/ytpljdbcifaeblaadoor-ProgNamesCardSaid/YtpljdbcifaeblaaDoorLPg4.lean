/- ProgNames: true; no condition but what a start gives. -/
import Derived.Test.YtpljdbcifaeblaaDoorLPg1
import Derived.Test.YtpljdbcifaeblaaDoorOpArg
import Derived.Test.YtpljdbcifaeblaaDoorBk
import Derived.Deep.Cut
import Derived.Deep.CutRange
import Derived.Test.YtpljdbcifaeblaaDoorLexG
namespace Go.Proofs.YtpljdbcifaeblaaDoor
open Go.RowKit Go.Extern.Stop Go.Stop Go.Extern

section
variable {P : Program} {ops : Array Oper} {S : World → Prop} {Q : Exit → Act → World → Prop}
/-- Three may come first. -/
theorem lexG_three {cs : Cls} {fr : List (Nat × Nat)} {n k m p : Nat} {L R R2 : List Nat} (hm : mays fr (k :: L) = [k, m, p]) (hR : (k :: L).erase m = R) (hR2 : (k :: L).erase p = R2) (ho : (match ops[k]? with | some o => !liteB cs o | none => false) = true) (ho2 : (opsAt ops [m]).length = 1) (ho3 : (opsAt ops [p]).length = 1) {a : Act} {w : World}
    (h1 : wpList P ops (lexGQ cs fr P ops S Q n L) (opsAt ops [k]) a w) (h2 : wpList P ops (lexGQ cs fr P ops S Q n R) (opsAt ops [m]) a w) (h3 : wpList P ops (lexGQ cs fr P ops S Q n R2) (opsAt ops [p]) a w) : lexG cs fr P ops S Q (n + 1) (k :: L) a w := by
  cases hk : ops[k]? with
  | none => rw [hk] at ho; cases ho
  | some o =>
    rw [hk] at ho
    refine ⟨o, hk, ?_⟩
    rw [if_neg (by simpa using ho)]
    intro x hmy
    have hmm := mem_mays hmy
    rw [hm, List.mem_cons, List.mem_cons, List.mem_singleton] at hmm
    rcases hmm with rfl | rfl | rfl
    · rw [List.erase_cons_head]
      exact lexG_wpOp (by simp [opsAt, hk]) h1
    · rw [hR]
      exact lexG_wpOp ho2 h2
    · rw [hR2]
      exact lexG_wpOp ho3 h3
end
theorem set4 (w : World) (t : Nat) (a0 a1 a2 a3 : Value) : w.setCells t 0 [a0, a1, a2, a3] = (((w.setCell ⟨t, 0, none⟩ a0).setCell ⟨t, 1, none⟩ a1).setCell ⟨t, 2, none⟩ a2).setCell ⟨t, 3, none⟩ a3 := rfl
theorem block4 {w : World} {t : Nat} {ty : TypeId} {a0 a1 a2 a3 : Value} (h : w.heap[t]? = some (.cells #[a0, a1, a2, a3] ty (0, 0))) (b0 b1 b2 b3 : Value) : (w.setCells t 0 [b0, b1, b2, b3]).heap[t]? = some (.cells #[b0, b1, b2, b3] ty (0, 0)) := by
  have := heap_setCells_at [b0, b1, b2, b3] 0 w _ h
  rw [show putAt #[a0, a1, a2, a3] 0 [b0, b1, b2, b3] = #[b0, b1, b2, b3] by simp [putAt]] at this
  exact this
theorem mods4 (w : World) (t : Nat) (a0 a1 a2 a3 : Value) : Mods (fun q => q = t) w (w.setCells t 0 [a0, a1, a2, a3]) := by
  rw [set4]
  exact ((((Mods.refl (fun q => q = t) w).setCell (p := ⟨t, 0, none⟩) (show t = t from rfl) _).setCell (p := ⟨t, 1, none⟩) (show t = t from rfl) _).setCell (p := ⟨t, 2, none⟩) (show t = t from rfl) _).setCell (p := ⟨t, 3, none⟩) (show t = t from rfl) _
/-- Three blocks of their own, each an operation. -/
structure Abc (w wx : World) (g8 g9 g10 : Nat) (c8 c9 c10 : Array Value) : Prop where
  n1 : g8 ≠ g9
  n2 : g8 ≠ g10
  n3 : g9 ≠ g10
  l8 : w.heap.size ≤ g8
  l9 : w.heap.size ≤ g9
  l10 : w.heap.size ≤ g10
  bel : Below w.heap.size w wx
  b8 : wx.heap[g8]? = some (.cells c8 29 (0, 0))
  b9 : wx.heap[g9]? = some (.cells c9 29 (0, 0))
  b10 : wx.heap[g10]? = some (.cells c10 29 (0, 0))

section
variable {w wx wz : World} {g8 g9 g10 : Nat} {c8 c9 c10 c : Array Value}
theorem Abc.turn8 (h : Abc w wx g8 g9 g10 c8 c9 c10) (hM : Mods (fun q => q = g8) wx wz) (hb : wz.heap[g8]? = some (.cells c 29 (0, 0))) : Abc w wz g8 g9 g10 c c9 c10 :=
  ⟨h.n1, h.n2, h.n3, h.l8, h.l9, h.l10, h.bel.trans (hM.below h.bel.size fun q (hq : q = g8) => by have := h.l8; omega), hb, (hM.block g9 (Array.getElem?_eq_some_iff.1 h.b9).1 fun e => h.n1 e.symm).trans h.b9, (hM.block g10 (Array.getElem?_eq_some_iff.1 h.b10).1 fun e => h.n2 e.symm).trans h.b10⟩
theorem Abc.turn9 (h : Abc w wx g8 g9 g10 c8 c9 c10) (hM : Mods (fun q => q = g9) wx wz) (hb : wz.heap[g9]? = some (.cells c 29 (0, 0))) : Abc w wz g8 g9 g10 c8 c c10 :=
  ⟨h.n1, h.n2, h.n3, h.l8, h.l9, h.l10, h.bel.trans (hM.below h.bel.size fun q (hq : q = g9) => by have := h.l9; omega), (hM.block g8 (Array.getElem?_eq_some_iff.1 h.b8).1 fun e => h.n1 e).trans h.b8, hb, (hM.block g10 (Array.getElem?_eq_some_iff.1 h.b10).1 fun e => h.n3 e.symm).trans h.b10⟩
theorem Abc.turn10 (h : Abc w wx g8 g9 g10 c8 c9 c10) (hM : Mods (fun q => q = g10) wx wz) (hb : wz.heap[g10]? = some (.cells c 29 (0, 0))) : Abc w wz g8 g9 g10 c8 c9 c :=
  ⟨h.n1, h.n2, h.n3, h.l8, h.l9, h.l10, h.bel.trans (hM.below h.bel.size fun q (hq : q = g10) => by have := h.l10; omega), (hM.block g8 (Array.getElem?_eq_some_iff.1 h.b8).1 fun e => h.n2 e).trans h.b8, (hM.block g9 (Array.getElem?_eq_some_iff.1 h.b9).1 fun e => h.n3 e).trans h.b9, hb⟩
theorem Abc.below (h : Abc w wx g8 g9 g10 c8 c9 c10) (hb : Below wx.heap.size wx wz) : Abc w wz g8 g9 g10 c8 c9 c10 :=
  ⟨h.n1, h.n2, h.n3, h.l8, h.l9, h.l10, h.bel.trans (hb.mono h.bel.size), (hb.block g8 (Array.getElem?_eq_some_iff.1 h.b8).1).trans h.b8, (hb.block g9 (Array.getElem?_eq_some_iff.1 h.b9).1).trans h.b9, (hb.block g10 (Array.getElem?_eq_some_iff.1 h.b10).1).trans h.b10⟩
end

set_option maxRecDepth 100000 in
set_option maxHeartbeats 16000000 in
theorem progNames (A : Nat → Addr) (o : OpV) (words vv : Int) (w : World) (hs : SentAt w A) (hof : o.fit) (hw : -9223372036854775808 ≤ words ∧ words ≤ 9223372036854775807) (hv : 0 ≤ vv ∧ vv ≤ 4294967295) :
    Calls Tryd.prog 6 #[o.v, .int .i64 words, .int .u32 vv] w (TruePost w) := by
  have HS := Lib.hid hs
  have hwk := wiF_b (n := words) (lo := 1) (hi := 128) (by omega)
  have HW0 := Lib.hid hw
  have HWB0 := Lib.hid hwk
  obtain ⟨W, hW⟩ : ∃ W, wiF words 1 128 = W := ⟨_, rfl⟩
  rw [hW] at HWB0
  have HWB := HWB0
  have HWW := Lib.hid hW
  have HVB := Lib.hid hv
  obtain ⟨kd, ad, va, ol⟩ := o
  have HOF := Lib.hid hof
  simp only [OpV.v]
  have hX := heap_alloc_new w (.cells #[.int .i64 kd, .int .i64 ad, .int .u32 va, .int .u32 ol] 29)
  have hb0 : Below w.heap.size w (w.alloc (.cells #[.int .i64 kd, .int .i64 ad, .int .u32 va, .int .u32 ol] 29)) := (Below.refl _ _).alloc (Nat.le_refl _) _
  have HX0 := Lib.hid hX
  have HB0 := Lib.hid hb0
  clear hs hof hw hwk HWB0 hW hX hb0 hv
  go_enter Tryd.func6, Tryd.ntmps6
  go_wp2_with fail
  obtain ⟨hO, hhO⟩ : ∃ hO, hO = w.heap.size := ⟨_, rfl⟩
  rw [← hhO] at HX0 ⊢
  generalize w.alloc (.cells #[.int .i64 kd, .int .i64 ad, .int .u32 va, .int .u32 ol] 29) = w0 at *
  clear hhO
  refine (Within_b words 1 128 w0 (by omega) (by omega) (by omega) HW0.out.1 HW0.out.2).mono ?_
  rintro ev w' ⟨rfl, hww⟩
  obtain rfl := hww
  rw [HWW.out]
  have q0 := cell_of HX0.out 0
  have q1 := cell_of HX0.out 1
  have q2 := cell_of HX0.out 2
  have q3 := cell_of HX0.out 3
  simp only [List.getElem?_toArray, List.getElem?_cons_zero, List.getElem?_cons_succ] at q0 q1 q2 q3
  have hlx := (Array.getElem?_eq_some_iff.1 HX0.out).1
  go_wp2_with fail
  refine (right_c ⟨kd, ad, va, ol⟩ W w0).mono ?_
  rintro ev w1 ⟨rfl, hb1⟩
  have HB1 := Lib.hid (HB0.out.trans (hb1.mono HB0.out.size))
  have HX1 := Lib.hid ((hb1.block hO hlx).trans HX0.out)
  clear hb1 q0 q1 q2 q3 hlx HX0 HB0
  cases hr : rightB ⟨kd, ad, va, ol⟩ W with
  | false =>
    clear hr
    go_wp2_with fail
    refine (progRuns A _ (HS.out.below HB1.out)).mono ?_
    rintro ev wz ⟨rfl, hbz⟩
    go_wp2_with fail
    go_ret
    exact ⟨rfl, HB1.out.trans (hbz.mono HB1.out.size)⟩
  | true =>
    have HR := Lib.hid hr
    clear hr
    by_cases hv0 : vv = 0
    · subst hv0
      go_wp2_with fail
      refine (progRuns A _ (HS.out.below HB1.out)).mono ?_
      rintro ev wz ⟨rfl, hbz⟩
      go_wp2_with fail
      go_ret
      exact ⟨rfl, HB1.out.trans (hbz.mono HB1.out.size)⟩
    · have gv : (vv == 0) = false := by simpa using hv0
      have HV0 := Lib.hid hv0
      have q0 := cell_of HX1.out 0
      have q1 := cell_of HX1.out 1
      have q2 := cell_of HX1.out 2
      have q3 := cell_of HX1.out 3
      simp only [List.getElem?_toArray, List.getElem?_cons_zero, List.getElem?_cons_succ] at q0 q1 q2 q3
      have hlx := (Array.getElem?_eq_some_iff.1 HX1.out).1
      clear hv0
      go_upto_region 4 with fail
      go_cut [8, 9, 10] from 11 to 89 (fun s8 s9 s10 wx => ∃ g8 g9 g10 : Nat, s8 = .pointer (some ⟨g8, 0, none⟩) ∧ s9 = .pointer (some ⟨g9, 0, none⟩) ∧ s10 = .pointer (some ⟨g10, 0, none⟩) ∧ Abc w1 wx g8 g9 g10 #[.int .i64 kd, .int .i64 ad, .int .u32 va, .int .u32 ol] #[.int .i64 kd, .int .i64 ad, .int .u32 va, .int .u32 ol] #[.int .i64 kd, .int .i64 ad, .int .u32 va, .int .u32 ol])
      case first =>
        refine wp_region_lexG ⟨[], []⟩ [(3, 4), (3, 5), (4, 5)] 9 [0, 1, 2, 3, 4, 5, 6, 7, 8] rfl rfl (fun x => Below w1.heap.size w1 x) (by kernel_rfl) (by kernel_rfl) (Below.refl _ _).drew ?_
        intro S hto hof hne
        have y0 : ∀ z : Wd S, z.w.cell? ⟨hO, 0, none⟩ = some (.int .i64 kd) := fun z => ((hto z).cell (p := ⟨hO, 0, none⟩) hlx).trans q0
        have y1 : ∀ z : Wd S, z.w.cell? ⟨hO, 1, none⟩ = some (.int .i64 ad) := fun z => ((hto z).cell (p := ⟨hO, 1, none⟩) hlx).trans q1
        have y2 : ∀ z : Wd S, z.w.cell? ⟨hO, 2, none⟩ = some (.int .u32 va) := fun z => ((hto z).cell (p := ⟨hO, 2, none⟩) hlx).trans q2
        have y3 : ∀ z : Wd S, z.w.cell? ⟨hO, 3, none⟩ = some (.int .u32 ol) := fun z => ((hto z).cell (p := ⟨hO, 3, none⟩) hlx).trans q3
        have Hof := Lib.hid hof
        clear hto hof q0 q1 q2 q3
        refine lexG_lights 3 (by kernel_rfl) (by kernel_rfl) ?_
        simp only [opsAt, List.take_succ_cons, List.take_zero, List.drop_succ_cons, List.drop_zero, List.filterMap_cons, List.filterMap_nil, List.getElem?_toArray, List.getElem?_cons_succ, List.getElem?_cons_zero]
        change wpQuiet _ _ _ _ (_ :: _ :: _ :: []) _
        repeat (first | go_big_quiet_skip | (go_big_quiet_want; go_big_quiet_op; go_big_quiet_on))
        refine wpQuiet_nil ?_
        clear y0 y1 y2 y3
        have HB0 := Lib.hid (show Below w1.heap.size w1 w1.drew from (Below.refl _ _).drew)
        generalize w1.drew = V0 at *
        refine lexG_three (k := 3) (m := 4) (p := 5) (R := [3, 5, 6, 7, 8]) (R2 := [3, 4, 6, 7, 8]) (by kernel_rfl) (by kernel_rfl) (by kernel_rfl) (by kernel_rfl) (by kernel_rfl) (by kernel_rfl) ?_ ?_ ?_
        · simp only [opsAt, List.filterMap_cons, List.filterMap_nil, List.getElem?_toArray, List.getElem?_cons_succ, List.getElem?_cons_zero]
          change wpList _ _ _ (_ :: []) _ _
          go_wp2_with fail
          obtain ⟨g8, hg8⟩ : ∃ g, g = V0.heap.size := ⟨_, rfl⟩
          have hn := heap_alloc_new V0 (.cells #[.int .i64 0, .int .i64 0, .int .u32 0, .int .u32 0] 29)
          have hb : Below V0.heap.size V0 (V0.alloc (.cells #[.int .i64 0, .int .i64 0, .int .u32 0, .int .u32 0] 29)) := (Below.refl _ _).alloc (Nat.le_refl _) _
          rw [← hg8] at hn ⊢
          have HB1 := Lib.hid (HB0.out.trans (hb.mono HB0.out.size))
          have HK81 := Lib.hid hn
          have HS8 := Lib.hid (show g8 = V0.heap.size ∧ (V0.alloc (.cells #[.int .i64 0, .int .i64 0, .int .u32 0, .int .u32 0] 29)).heap.size = V0.heap.size + 1 from ⟨hg8, by simp⟩)
          refine lexGQ_more (Hof.out _ HB1.out) ?_
          generalize V0.alloc (.cells #[.int .i64 0, .int .i64 0, .int .u32 0, .int .u32 0] 29) = V1 at *
          clear hn hb hg8
          refine lexG_two (k := 4) (m := 5) (R := [4, 6, 7, 8]) (by kernel_rfl) (by kernel_rfl) (by kernel_rfl) (by kernel_rfl) ?_ ?_
          · simp only [opsAt, List.filterMap_cons, List.filterMap_nil, List.getElem?_toArray, List.getElem?_cons_succ, List.getElem?_cons_zero]
            change wpList _ _ _ (_ :: []) _ _
            go_wp2_with fail
            obtain ⟨g9, hg9⟩ : ∃ g, g = V1.heap.size := ⟨_, rfl⟩
            have hn := heap_alloc_new V1 (.cells #[.int .i64 0, .int .i64 0, .int .u32 0, .int .u32 0] 29)
            have hb : Below V1.heap.size V1 (V1.alloc (.cells #[.int .i64 0, .int .i64 0, .int .u32 0, .int .u32 0] 29)) := (Below.refl _ _).alloc (Nat.le_refl _) _
            rw [← hg9] at hn ⊢
            have HB2 := Lib.hid (HB1.out.trans (hb.mono HB1.out.size))
            have HK92 := Lib.hid hn
            have HS9 := Lib.hid (show g9 = V1.heap.size ∧ (V1.alloc (.cells #[.int .i64 0, .int .i64 0, .int .u32 0, .int .u32 0] 29)).heap.size = V1.heap.size + 1 from ⟨hg9, by simp⟩)
            have HK82 := Lib.hid ((hb.block g8 (Array.getElem?_eq_some_iff.1 HK81.out).1).trans HK81.out)
            refine lexGQ_more (Hof.out _ HB2.out) ?_
            generalize V1.alloc (.cells #[.int .i64 0, .int .i64 0, .int .u32 0, .int .u32 0] 29) = V2 at *
            clear hn hb hg9
            refine lexG_one (by kernel_rfl) (by kernel_rfl) ?_
            simp only [opsAt, List.filterMap_cons, List.filterMap_nil, List.getElem?_toArray, List.getElem?_cons_succ, List.getElem?_cons_zero]
            change wpList _ _ _ (_ :: []) _ _
            go_wp2_with fail
            obtain ⟨g10, hg10⟩ : ∃ g, g = V2.heap.size := ⟨_, rfl⟩
            have hn := heap_alloc_new V2 (.cells #[.int .i64 0, .int .i64 0, .int .u32 0, .int .u32 0] 29)
            have hb : Below V2.heap.size V2 (V2.alloc (.cells #[.int .i64 0, .int .i64 0, .int .u32 0, .int .u32 0] 29)) := (Below.refl _ _).alloc (Nat.le_refl _) _
            rw [← hg10] at hn ⊢
            have HB3 := Lib.hid (HB2.out.trans (hb.mono HB2.out.size))
            have HK103 := Lib.hid hn
            have HS10 := Lib.hid (show g10 = V2.heap.size ∧ (V2.alloc (.cells #[.int .i64 0, .int .i64 0, .int .u32 0, .int .u32 0] 29)).heap.size = V2.heap.size + 1 from ⟨hg10, by simp⟩)
            have HK83 := Lib.hid ((hb.block g8 (Array.getElem?_eq_some_iff.1 HK82.out).1).trans HK82.out)
            have HK93 := Lib.hid ((hb.block g9 (Array.getElem?_eq_some_iff.1 HK92.out).1).trans HK92.out)
            refine lexGQ_more (Hof.out _ HB3.out) ?_
            generalize V2.alloc (.cells #[.int .i64 0, .int .i64 0, .int .u32 0, .int .u32 0] 29) = V3 at *
            clear hn hb hg10
            have HL := Lib.hid (show ((g8 ≠ g9 ∧ g8 ≠ g10) ∧ g9 ≠ g10) ∧ (w1.heap.size ≤ g8 ∧ w1.heap.size ≤ g9) ∧ w1.heap.size ≤ g10 by have := HS8.out; have := HS9.out; have := HS10.out; have := HB0.out.size; have := HB1.out.size; have := HB2.out.size; omega)
            refine lexG_one (by kernel_rfl) (by kernel_rfl) ?_
            simp only [opsAt, List.filterMap_cons, List.filterMap_nil, List.getElem?_toArray, List.getElem?_cons_succ, List.getElem?_cons_zero]
            change wpList _ _ _ (_ :: []) _ _
            have k0 := cell_of HK83.out 0
            have z0 := frozen_of HK83.out 0
            have k1 := cell_of HK83.out 1
            have z1 := frozen_of HK83.out 1
            have k2 := cell_of HK83.out 2
            have z2 := frozen_of HK83.out 2
            have k3 := cell_of HK83.out 3
            have z3 := frozen_of HK83.out 3
            simp only [List.getElem?_toArray, List.getElem?_cons_zero, List.getElem?_cons_succ] at k0 k1 k2 k3
            have hkl := (Array.getElem?_eq_some_iff.1 HK83.out).1
            go_wp2_with fail
            rw [← set4 V3 g8]
            have hM := mods4 V3 g8 (.int .i64 kd) (.int .i64 ad) (.int .u32 va) (.int .u32 ol)
            have HK84 := Lib.hid (block4 HK83.out (.int .i64 kd) (.int .i64 ad) (.int .u32 va) (.int .u32 ol))
            have HB4 := Lib.hid (HB3.out.trans (hM.below HB3.out.size fun q (hq : q = g8) => by have := HL.out; omega))
            have HK94 := Lib.hid ((hM.block g9 (Array.getElem?_eq_some_iff.1 HK93.out).1 (fun (h : g9 = g8) => by have := HL.out; omega)).trans HK93.out)
            have HK104 := Lib.hid ((hM.block g10 (Array.getElem?_eq_some_iff.1 HK103.out).1 (fun (h : g10 = g8) => by have := HL.out; omega)).trans HK103.out)
            refine lexGQ_more (Hof.out _ HB4.out) ?_
            generalize V3.setCells g8 0 [.int .i64 kd, .int .i64 ad, .int .u32 va, .int .u32 ol] = V4 at *
            clear hM k0 k1 k2 k3 z0 z1 z2 z3 hkl
            refine lexG_one (by kernel_rfl) (by kernel_rfl) ?_
            simp only [opsAt, List.filterMap_cons, List.filterMap_nil, List.getElem?_toArray, List.getElem?_cons_succ, List.getElem?_cons_zero]
            change wpList _ _ _ (_ :: []) _ _
            have k0 := cell_of HK94.out 0
            have z0 := frozen_of HK94.out 0
            have k1 := cell_of HK94.out 1
            have z1 := frozen_of HK94.out 1
            have k2 := cell_of HK94.out 2
            have z2 := frozen_of HK94.out 2
            have k3 := cell_of HK94.out 3
            have z3 := frozen_of HK94.out 3
            simp only [List.getElem?_toArray, List.getElem?_cons_zero, List.getElem?_cons_succ] at k0 k1 k2 k3
            have hkl := (Array.getElem?_eq_some_iff.1 HK94.out).1
            go_wp2_with fail
            rw [← set4 V4 g9]
            have hM := mods4 V4 g9 (.int .i64 kd) (.int .i64 ad) (.int .u32 va) (.int .u32 ol)
            have HK95 := Lib.hid (block4 HK94.out (.int .i64 kd) (.int .i64 ad) (.int .u32 va) (.int .u32 ol))
            have HB5 := Lib.hid (HB4.out.trans (hM.below HB4.out.size fun q (hq : q = g9) => by have := HL.out; omega))
            have HK85 := Lib.hid ((hM.block g8 (Array.getElem?_eq_some_iff.1 HK84.out).1 (fun (h : g8 = g9) => by have := HL.out; omega)).trans HK84.out)
            have HK105 := Lib.hid ((hM.block g10 (Array.getElem?_eq_some_iff.1 HK104.out).1 (fun (h : g10 = g9) => by have := HL.out; omega)).trans HK104.out)
            refine lexGQ_more (Hof.out _ HB5.out) ?_
            generalize V4.setCells g9 0 [.int .i64 kd, .int .i64 ad, .int .u32 va, .int .u32 ol] = V5 at *
            clear hM k0 k1 k2 k3 z0 z1 z2 z3 hkl
            refine lexG_one (by kernel_rfl) (by kernel_rfl) ?_
            simp only [opsAt, List.filterMap_cons, List.filterMap_nil, List.getElem?_toArray, List.getElem?_cons_succ, List.getElem?_cons_zero]
            change wpList _ _ _ (_ :: []) _ _
            have k0 := cell_of HK105.out 0
            have z0 := frozen_of HK105.out 0
            have k1 := cell_of HK105.out 1
            have z1 := frozen_of HK105.out 1
            have k2 := cell_of HK105.out 2
            have z2 := frozen_of HK105.out 2
            have k3 := cell_of HK105.out 3
            have z3 := frozen_of HK105.out 3
            simp only [List.getElem?_toArray, List.getElem?_cons_zero, List.getElem?_cons_succ] at k0 k1 k2 k3
            have hkl := (Array.getElem?_eq_some_iff.1 HK105.out).1
            go_wp2_with fail
            rw [← set4 V5 g10]
            have hM := mods4 V5 g10 (.int .i64 kd) (.int .i64 ad) (.int .u32 va) (.int .u32 ol)
            have HK106 := Lib.hid (block4 HK105.out (.int .i64 kd) (.int .i64 ad) (.int .u32 va) (.int .u32 ol))
            have HB6 := Lib.hid (HB5.out.trans (hM.below HB5.out.size fun q (hq : q = g10) => by have := HL.out; omega))
            have HK86 := Lib.hid ((hM.block g8 (Array.getElem?_eq_some_iff.1 HK85.out).1 (fun (h : g8 = g10) => by have := HL.out; omega)).trans HK85.out)
            have HK96 := Lib.hid ((hM.block g9 (Array.getElem?_eq_some_iff.1 HK95.out).1 (fun (h : g9 = g10) => by have := HL.out; omega)).trans HK95.out)
            refine lexGQ_more (Hof.out _ HB6.out) ?_
            generalize V5.setCells g10 0 [.int .i64 kd, .int .i64 ad, .int .u32 va, .int .u32 ol] = V6 at *
            clear hM k0 k1 k2 k3 z0 z1 z2 z3 hkl
            refine lexG_done ?_
            go_wp2_with fail
            go_meet
            case rel => exact ⟨g8, g9, g10, rfl, rfl, rfl, HL.out.1.1.1, HL.out.1.1.2, HL.out.1.2, HL.out.2.1.1, HL.out.2.1.2, HL.out.2.2, HB6.out, HK86.out, HK96.out, HK106.out⟩
          · simp only [opsAt, List.filterMap_cons, List.filterMap_nil, List.getElem?_toArray, List.getElem?_cons_succ, List.getElem?_cons_zero]
            change wpList _ _ _ (_ :: []) _ _
            go_wp2_with fail
            obtain ⟨g10, hg10⟩ : ∃ g, g = V1.heap.size := ⟨_, rfl⟩
            have hn := heap_alloc_new V1 (.cells #[.int .i64 0, .int .i64 0, .int .u32 0, .int .u32 0] 29)
            have hb : Below V1.heap.size V1 (V1.alloc (.cells #[.int .i64 0, .int .i64 0, .int .u32 0, .int .u32 0] 29)) := (Below.refl _ _).alloc (Nat.le_refl _) _
            rw [← hg10] at hn ⊢
            have HB2 := Lib.hid (HB1.out.trans (hb.mono HB1.out.size))
            have HK102 := Lib.hid hn
            have HS10 := Lib.hid (show g10 = V1.heap.size ∧ (V1.alloc (.cells #[.int .i64 0, .int .i64 0, .int .u32 0, .int .u32 0] 29)).heap.size = V1.heap.size + 1 from ⟨hg10, by simp⟩)
            have HK82 := Lib.hid ((hb.block g8 (Array.getElem?_eq_some_iff.1 HK81.out).1).trans HK81.out)
            refine lexGQ_more (Hof.out _ HB2.out) ?_
            generalize V1.alloc (.cells #[.int .i64 0, .int .i64 0, .int .u32 0, .int .u32 0] 29) = V2 at *
            clear hn hb hg10
            refine lexG_one (by kernel_rfl) (by kernel_rfl) ?_
            simp only [opsAt, List.filterMap_cons, List.filterMap_nil, List.getElem?_toArray, List.getElem?_cons_succ, List.getElem?_cons_zero]
            change wpList _ _ _ (_ :: []) _ _
            go_wp2_with fail
            obtain ⟨g9, hg9⟩ : ∃ g, g = V2.heap.size := ⟨_, rfl⟩
            have hn := heap_alloc_new V2 (.cells #[.int .i64 0, .int .i64 0, .int .u32 0, .int .u32 0] 29)
            have hb : Below V2.heap.size V2 (V2.alloc (.cells #[.int .i64 0, .int .i64 0, .int .u32 0, .int .u32 0] 29)) := (Below.refl _ _).alloc (Nat.le_refl _) _
            rw [← hg9] at hn ⊢
            have HB3 := Lib.hid (HB2.out.trans (hb.mono HB2.out.size))
            have HK93 := Lib.hid hn
            have HS9 := Lib.hid (show g9 = V2.heap.size ∧ (V2.alloc (.cells #[.int .i64 0, .int .i64 0, .int .u32 0, .int .u32 0] 29)).heap.size = V2.heap.size + 1 from ⟨hg9, by simp⟩)
            have HK83 := Lib.hid ((hb.block g8 (Array.getElem?_eq_some_iff.1 HK82.out).1).trans HK82.out)
            have HK103 := Lib.hid ((hb.block g10 (Array.getElem?_eq_some_iff.1 HK102.out).1).trans HK102.out)
            refine lexGQ_more (Hof.out _ HB3.out) ?_
            generalize V2.alloc (.cells #[.int .i64 0, .int .i64 0, .int .u32 0, .int .u32 0] 29) = V3 at *
            clear hn hb hg9
            have HL := Lib.hid (show ((g8 ≠ g9 ∧ g8 ≠ g10) ∧ g9 ≠ g10) ∧ (w1.heap.size ≤ g8 ∧ w1.heap.size ≤ g9) ∧ w1.heap.size ≤ g10 by have := HS8.out; have := HS9.out; have := HS10.out; have := HB0.out.size; have := HB1.out.size; have := HB2.out.size; omega)
            refine lexG_one (by kernel_rfl) (by kernel_rfl) ?_
            simp only [opsAt, List.filterMap_cons, List.filterMap_nil, List.getElem?_toArray, List.getElem?_cons_succ, List.getElem?_cons_zero]
            change wpList _ _ _ (_ :: []) _ _
            have k0 := cell_of HK83.out 0
            have z0 := frozen_of HK83.out 0
            have k1 := cell_of HK83.out 1
            have z1 := frozen_of HK83.out 1
            have k2 := cell_of HK83.out 2
            have z2 := frozen_of HK83.out 2
            have k3 := cell_of HK83.out 3
            have z3 := frozen_of HK83.out 3
            simp only [List.getElem?_toArray, List.getElem?_cons_zero, List.getElem?_cons_succ] at k0 k1 k2 k3
            have hkl := (Array.getElem?_eq_some_iff.1 HK83.out).1
            go_wp2_with fail
            rw [← set4 V3 g8]
            have hM := mods4 V3 g8 (.int .i64 kd) (.int .i64 ad) (.int .u32 va) (.int .u32 ol)
            have HK84 := Lib.hid (block4 HK83.out (.int .i64 kd) (.int .i64 ad) (.int .u32 va) (.int .u32 ol))
            have HB4 := Lib.hid (HB3.out.trans (hM.below HB3.out.size fun q (hq : q = g8) => by have := HL.out; omega))
            have HK94 := Lib.hid ((hM.block g9 (Array.getElem?_eq_some_iff.1 HK93.out).1 (fun (h : g9 = g8) => by have := HL.out; omega)).trans HK93.out)
            have HK104 := Lib.hid ((hM.block g10 (Array.getElem?_eq_some_iff.1 HK103.out).1 (fun (h : g10 = g8) => by have := HL.out; omega)).trans HK103.out)
            refine lexGQ_more (Hof.out _ HB4.out) ?_
            generalize V3.setCells g8 0 [.int .i64 kd, .int .i64 ad, .int .u32 va, .int .u32 ol] = V4 at *
            clear hM k0 k1 k2 k3 z0 z1 z2 z3 hkl
            refine lexG_one (by kernel_rfl) (by kernel_rfl) ?_
            simp only [opsAt, List.filterMap_cons, List.filterMap_nil, List.getElem?_toArray, List.getElem?_cons_succ, List.getElem?_cons_zero]
            change wpList _ _ _ (_ :: []) _ _
            have k0 := cell_of HK94.out 0
            have z0 := frozen_of HK94.out 0
            have k1 := cell_of HK94.out 1
            have z1 := frozen_of HK94.out 1
            have k2 := cell_of HK94.out 2
            have z2 := frozen_of HK94.out 2
            have k3 := cell_of HK94.out 3
            have z3 := frozen_of HK94.out 3
            simp only [List.getElem?_toArray, List.getElem?_cons_zero, List.getElem?_cons_succ] at k0 k1 k2 k3
            have hkl := (Array.getElem?_eq_some_iff.1 HK94.out).1
            go_wp2_with fail
            rw [← set4 V4 g9]
            have hM := mods4 V4 g9 (.int .i64 kd) (.int .i64 ad) (.int .u32 va) (.int .u32 ol)
            have HK95 := Lib.hid (block4 HK94.out (.int .i64 kd) (.int .i64 ad) (.int .u32 va) (.int .u32 ol))
            have HB5 := Lib.hid (HB4.out.trans (hM.below HB4.out.size fun q (hq : q = g9) => by have := HL.out; omega))
            have HK85 := Lib.hid ((hM.block g8 (Array.getElem?_eq_some_iff.1 HK84.out).1 (fun (h : g8 = g9) => by have := HL.out; omega)).trans HK84.out)
            have HK105 := Lib.hid ((hM.block g10 (Array.getElem?_eq_some_iff.1 HK104.out).1 (fun (h : g10 = g9) => by have := HL.out; omega)).trans HK104.out)
            refine lexGQ_more (Hof.out _ HB5.out) ?_
            generalize V4.setCells g9 0 [.int .i64 kd, .int .i64 ad, .int .u32 va, .int .u32 ol] = V5 at *
            clear hM k0 k1 k2 k3 z0 z1 z2 z3 hkl
            refine lexG_one (by kernel_rfl) (by kernel_rfl) ?_
            simp only [opsAt, List.filterMap_cons, List.filterMap_nil, List.getElem?_toArray, List.getElem?_cons_succ, List.getElem?_cons_zero]
            change wpList _ _ _ (_ :: []) _ _
            have k0 := cell_of HK105.out 0
            have z0 := frozen_of HK105.out 0
            have k1 := cell_of HK105.out 1
            have z1 := frozen_of HK105.out 1
            have k2 := cell_of HK105.out 2
            have z2 := frozen_of HK105.out 2
            have k3 := cell_of HK105.out 3
            have z3 := frozen_of HK105.out 3
            simp only [List.getElem?_toArray, List.getElem?_cons_zero, List.getElem?_cons_succ] at k0 k1 k2 k3
            have hkl := (Array.getElem?_eq_some_iff.1 HK105.out).1
            go_wp2_with fail
            rw [← set4 V5 g10]
            have hM := mods4 V5 g10 (.int .i64 kd) (.int .i64 ad) (.int .u32 va) (.int .u32 ol)
            have HK106 := Lib.hid (block4 HK105.out (.int .i64 kd) (.int .i64 ad) (.int .u32 va) (.int .u32 ol))
            have HB6 := Lib.hid (HB5.out.trans (hM.below HB5.out.size fun q (hq : q = g10) => by have := HL.out; omega))
            have HK86 := Lib.hid ((hM.block g8 (Array.getElem?_eq_some_iff.1 HK85.out).1 (fun (h : g8 = g10) => by have := HL.out; omega)).trans HK85.out)
            have HK96 := Lib.hid ((hM.block g9 (Array.getElem?_eq_some_iff.1 HK95.out).1 (fun (h : g9 = g10) => by have := HL.out; omega)).trans HK95.out)
            refine lexGQ_more (Hof.out _ HB6.out) ?_
            generalize V5.setCells g10 0 [.int .i64 kd, .int .i64 ad, .int .u32 va, .int .u32 ol] = V6 at *
            clear hM k0 k1 k2 k3 z0 z1 z2 z3 hkl
            refine lexG_done ?_
            go_wp2_with fail
            go_meet
            case rel => exact ⟨g8, g9, g10, rfl, rfl, rfl, HL.out.1.1.1, HL.out.1.1.2, HL.out.1.2, HL.out.2.1.1, HL.out.2.1.2, HL.out.2.2, HB6.out, HK86.out, HK96.out, HK106.out⟩
        · simp only [opsAt, List.filterMap_cons, List.filterMap_nil, List.getElem?_toArray, List.getElem?_cons_succ, List.getElem?_cons_zero]
          change wpList _ _ _ (_ :: []) _ _
          go_wp2_with fail
          obtain ⟨g9, hg9⟩ : ∃ g, g = V0.heap.size := ⟨_, rfl⟩
          have hn := heap_alloc_new V0 (.cells #[.int .i64 0, .int .i64 0, .int .u32 0, .int .u32 0] 29)
          have hb : Below V0.heap.size V0 (V0.alloc (.cells #[.int .i64 0, .int .i64 0, .int .u32 0, .int .u32 0] 29)) := (Below.refl _ _).alloc (Nat.le_refl _) _
          rw [← hg9] at hn ⊢
          have HB1 := Lib.hid (HB0.out.trans (hb.mono HB0.out.size))
          have HK91 := Lib.hid hn
          have HS9 := Lib.hid (show g9 = V0.heap.size ∧ (V0.alloc (.cells #[.int .i64 0, .int .i64 0, .int .u32 0, .int .u32 0] 29)).heap.size = V0.heap.size + 1 from ⟨hg9, by simp⟩)
          refine lexGQ_more (Hof.out _ HB1.out) ?_
          generalize V0.alloc (.cells #[.int .i64 0, .int .i64 0, .int .u32 0, .int .u32 0] 29) = V1 at *
          clear hn hb hg9
          refine lexG_two (k := 3) (m := 5) (R := [3, 6, 7, 8]) (by kernel_rfl) (by kernel_rfl) (by kernel_rfl) (by kernel_rfl) ?_ ?_
          · simp only [opsAt, List.filterMap_cons, List.filterMap_nil, List.getElem?_toArray, List.getElem?_cons_succ, List.getElem?_cons_zero]
            change wpList _ _ _ (_ :: []) _ _
            go_wp2_with fail
            obtain ⟨g8, hg8⟩ : ∃ g, g = V1.heap.size := ⟨_, rfl⟩
            have hn := heap_alloc_new V1 (.cells #[.int .i64 0, .int .i64 0, .int .u32 0, .int .u32 0] 29)
            have hb : Below V1.heap.size V1 (V1.alloc (.cells #[.int .i64 0, .int .i64 0, .int .u32 0, .int .u32 0] 29)) := (Below.refl _ _).alloc (Nat.le_refl _) _
            rw [← hg8] at hn ⊢
            have HB2 := Lib.hid (HB1.out.trans (hb.mono HB1.out.size))
            have HK82 := Lib.hid hn
            have HS8 := Lib.hid (show g8 = V1.heap.size ∧ (V1.alloc (.cells #[.int .i64 0, .int .i64 0, .int .u32 0, .int .u32 0] 29)).heap.size = V1.heap.size + 1 from ⟨hg8, by simp⟩)
            have HK92 := Lib.hid ((hb.block g9 (Array.getElem?_eq_some_iff.1 HK91.out).1).trans HK91.out)
            refine lexGQ_more (Hof.out _ HB2.out) ?_
            generalize V1.alloc (.cells #[.int .i64 0, .int .i64 0, .int .u32 0, .int .u32 0] 29) = V2 at *
            clear hn hb hg8
            refine lexG_one (by kernel_rfl) (by kernel_rfl) ?_
            simp only [opsAt, List.filterMap_cons, List.filterMap_nil, List.getElem?_toArray, List.getElem?_cons_succ, List.getElem?_cons_zero]
            change wpList _ _ _ (_ :: []) _ _
            go_wp2_with fail
            obtain ⟨g10, hg10⟩ : ∃ g, g = V2.heap.size := ⟨_, rfl⟩
            have hn := heap_alloc_new V2 (.cells #[.int .i64 0, .int .i64 0, .int .u32 0, .int .u32 0] 29)
            have hb : Below V2.heap.size V2 (V2.alloc (.cells #[.int .i64 0, .int .i64 0, .int .u32 0, .int .u32 0] 29)) := (Below.refl _ _).alloc (Nat.le_refl _) _
            rw [← hg10] at hn ⊢
            have HB3 := Lib.hid (HB2.out.trans (hb.mono HB2.out.size))
            have HK103 := Lib.hid hn
            have HS10 := Lib.hid (show g10 = V2.heap.size ∧ (V2.alloc (.cells #[.int .i64 0, .int .i64 0, .int .u32 0, .int .u32 0] 29)).heap.size = V2.heap.size + 1 from ⟨hg10, by simp⟩)
            have HK93 := Lib.hid ((hb.block g9 (Array.getElem?_eq_some_iff.1 HK92.out).1).trans HK92.out)
            have HK83 := Lib.hid ((hb.block g8 (Array.getElem?_eq_some_iff.1 HK82.out).1).trans HK82.out)
            refine lexGQ_more (Hof.out _ HB3.out) ?_
            generalize V2.alloc (.cells #[.int .i64 0, .int .i64 0, .int .u32 0, .int .u32 0] 29) = V3 at *
            clear hn hb hg10
            have HL := Lib.hid (show ((g8 ≠ g9 ∧ g8 ≠ g10) ∧ g9 ≠ g10) ∧ (w1.heap.size ≤ g8 ∧ w1.heap.size ≤ g9) ∧ w1.heap.size ≤ g10 by have := HS8.out; have := HS9.out; have := HS10.out; have := HB0.out.size; have := HB1.out.size; have := HB2.out.size; omega)
            refine lexG_one (by kernel_rfl) (by kernel_rfl) ?_
            simp only [opsAt, List.filterMap_cons, List.filterMap_nil, List.getElem?_toArray, List.getElem?_cons_succ, List.getElem?_cons_zero]
            change wpList _ _ _ (_ :: []) _ _
            have k0 := cell_of HK83.out 0
            have z0 := frozen_of HK83.out 0
            have k1 := cell_of HK83.out 1
            have z1 := frozen_of HK83.out 1
            have k2 := cell_of HK83.out 2
            have z2 := frozen_of HK83.out 2
            have k3 := cell_of HK83.out 3
            have z3 := frozen_of HK83.out 3
            simp only [List.getElem?_toArray, List.getElem?_cons_zero, List.getElem?_cons_succ] at k0 k1 k2 k3
            have hkl := (Array.getElem?_eq_some_iff.1 HK83.out).1
            go_wp2_with fail
            rw [← set4 V3 g8]
            have hM := mods4 V3 g8 (.int .i64 kd) (.int .i64 ad) (.int .u32 va) (.int .u32 ol)
            have HK84 := Lib.hid (block4 HK83.out (.int .i64 kd) (.int .i64 ad) (.int .u32 va) (.int .u32 ol))
            have HB4 := Lib.hid (HB3.out.trans (hM.below HB3.out.size fun q (hq : q = g8) => by have := HL.out; omega))
            have HK94 := Lib.hid ((hM.block g9 (Array.getElem?_eq_some_iff.1 HK93.out).1 (fun (h : g9 = g8) => by have := HL.out; omega)).trans HK93.out)
            have HK104 := Lib.hid ((hM.block g10 (Array.getElem?_eq_some_iff.1 HK103.out).1 (fun (h : g10 = g8) => by have := HL.out; omega)).trans HK103.out)
            refine lexGQ_more (Hof.out _ HB4.out) ?_
            generalize V3.setCells g8 0 [.int .i64 kd, .int .i64 ad, .int .u32 va, .int .u32 ol] = V4 at *
            clear hM k0 k1 k2 k3 z0 z1 z2 z3 hkl
            refine lexG_one (by kernel_rfl) (by kernel_rfl) ?_
            simp only [opsAt, List.filterMap_cons, List.filterMap_nil, List.getElem?_toArray, List.getElem?_cons_succ, List.getElem?_cons_zero]
            change wpList _ _ _ (_ :: []) _ _
            have k0 := cell_of HK94.out 0
            have z0 := frozen_of HK94.out 0
            have k1 := cell_of HK94.out 1
            have z1 := frozen_of HK94.out 1
            have k2 := cell_of HK94.out 2
            have z2 := frozen_of HK94.out 2
            have k3 := cell_of HK94.out 3
            have z3 := frozen_of HK94.out 3
            simp only [List.getElem?_toArray, List.getElem?_cons_zero, List.getElem?_cons_succ] at k0 k1 k2 k3
            have hkl := (Array.getElem?_eq_some_iff.1 HK94.out).1
            go_wp2_with fail
            rw [← set4 V4 g9]
            have hM := mods4 V4 g9 (.int .i64 kd) (.int .i64 ad) (.int .u32 va) (.int .u32 ol)
            have HK95 := Lib.hid (block4 HK94.out (.int .i64 kd) (.int .i64 ad) (.int .u32 va) (.int .u32 ol))
            have HB5 := Lib.hid (HB4.out.trans (hM.below HB4.out.size fun q (hq : q = g9) => by have := HL.out; omega))
            have HK85 := Lib.hid ((hM.block g8 (Array.getElem?_eq_some_iff.1 HK84.out).1 (fun (h : g8 = g9) => by have := HL.out; omega)).trans HK84.out)
            have HK105 := Lib.hid ((hM.block g10 (Array.getElem?_eq_some_iff.1 HK104.out).1 (fun (h : g10 = g9) => by have := HL.out; omega)).trans HK104.out)
            refine lexGQ_more (Hof.out _ HB5.out) ?_
            generalize V4.setCells g9 0 [.int .i64 kd, .int .i64 ad, .int .u32 va, .int .u32 ol] = V5 at *
            clear hM k0 k1 k2 k3 z0 z1 z2 z3 hkl
            refine lexG_one (by kernel_rfl) (by kernel_rfl) ?_
            simp only [opsAt, List.filterMap_cons, List.filterMap_nil, List.getElem?_toArray, List.getElem?_cons_succ, List.getElem?_cons_zero]
            change wpList _ _ _ (_ :: []) _ _
            have k0 := cell_of HK105.out 0
            have z0 := frozen_of HK105.out 0
            have k1 := cell_of HK105.out 1
            have z1 := frozen_of HK105.out 1
            have k2 := cell_of HK105.out 2
            have z2 := frozen_of HK105.out 2
            have k3 := cell_of HK105.out 3
            have z3 := frozen_of HK105.out 3
            simp only [List.getElem?_toArray, List.getElem?_cons_zero, List.getElem?_cons_succ] at k0 k1 k2 k3
            have hkl := (Array.getElem?_eq_some_iff.1 HK105.out).1
            go_wp2_with fail
            rw [← set4 V5 g10]
            have hM := mods4 V5 g10 (.int .i64 kd) (.int .i64 ad) (.int .u32 va) (.int .u32 ol)
            have HK106 := Lib.hid (block4 HK105.out (.int .i64 kd) (.int .i64 ad) (.int .u32 va) (.int .u32 ol))
            have HB6 := Lib.hid (HB5.out.trans (hM.below HB5.out.size fun q (hq : q = g10) => by have := HL.out; omega))
            have HK86 := Lib.hid ((hM.block g8 (Array.getElem?_eq_some_iff.1 HK85.out).1 (fun (h : g8 = g10) => by have := HL.out; omega)).trans HK85.out)
            have HK96 := Lib.hid ((hM.block g9 (Array.getElem?_eq_some_iff.1 HK95.out).1 (fun (h : g9 = g10) => by have := HL.out; omega)).trans HK95.out)
            refine lexGQ_more (Hof.out _ HB6.out) ?_
            generalize V5.setCells g10 0 [.int .i64 kd, .int .i64 ad, .int .u32 va, .int .u32 ol] = V6 at *
            clear hM k0 k1 k2 k3 z0 z1 z2 z3 hkl
            refine lexG_done ?_
            go_wp2_with fail
            go_meet
            case rel => exact ⟨g8, g9, g10, rfl, rfl, rfl, HL.out.1.1.1, HL.out.1.1.2, HL.out.1.2, HL.out.2.1.1, HL.out.2.1.2, HL.out.2.2, HB6.out, HK86.out, HK96.out, HK106.out⟩
          · simp only [opsAt, List.filterMap_cons, List.filterMap_nil, List.getElem?_toArray, List.getElem?_cons_succ, List.getElem?_cons_zero]
            change wpList _ _ _ (_ :: []) _ _
            go_wp2_with fail
            obtain ⟨g10, hg10⟩ : ∃ g, g = V1.heap.size := ⟨_, rfl⟩
            have hn := heap_alloc_new V1 (.cells #[.int .i64 0, .int .i64 0, .int .u32 0, .int .u32 0] 29)
            have hb : Below V1.heap.size V1 (V1.alloc (.cells #[.int .i64 0, .int .i64 0, .int .u32 0, .int .u32 0] 29)) := (Below.refl _ _).alloc (Nat.le_refl _) _
            rw [← hg10] at hn ⊢
            have HB2 := Lib.hid (HB1.out.trans (hb.mono HB1.out.size))
            have HK102 := Lib.hid hn
            have HS10 := Lib.hid (show g10 = V1.heap.size ∧ (V1.alloc (.cells #[.int .i64 0, .int .i64 0, .int .u32 0, .int .u32 0] 29)).heap.size = V1.heap.size + 1 from ⟨hg10, by simp⟩)
            have HK92 := Lib.hid ((hb.block g9 (Array.getElem?_eq_some_iff.1 HK91.out).1).trans HK91.out)
            refine lexGQ_more (Hof.out _ HB2.out) ?_
            generalize V1.alloc (.cells #[.int .i64 0, .int .i64 0, .int .u32 0, .int .u32 0] 29) = V2 at *
            clear hn hb hg10
            refine lexG_one (by kernel_rfl) (by kernel_rfl) ?_
            simp only [opsAt, List.filterMap_cons, List.filterMap_nil, List.getElem?_toArray, List.getElem?_cons_succ, List.getElem?_cons_zero]
            change wpList _ _ _ (_ :: []) _ _
            go_wp2_with fail
            obtain ⟨g8, hg8⟩ : ∃ g, g = V2.heap.size := ⟨_, rfl⟩
            have hn := heap_alloc_new V2 (.cells #[.int .i64 0, .int .i64 0, .int .u32 0, .int .u32 0] 29)
            have hb : Below V2.heap.size V2 (V2.alloc (.cells #[.int .i64 0, .int .i64 0, .int .u32 0, .int .u32 0] 29)) := (Below.refl _ _).alloc (Nat.le_refl _) _
            rw [← hg8] at hn ⊢
            have HB3 := Lib.hid (HB2.out.trans (hb.mono HB2.out.size))
            have HK83 := Lib.hid hn
            have HS8 := Lib.hid (show g8 = V2.heap.size ∧ (V2.alloc (.cells #[.int .i64 0, .int .i64 0, .int .u32 0, .int .u32 0] 29)).heap.size = V2.heap.size + 1 from ⟨hg8, by simp⟩)
            have HK93 := Lib.hid ((hb.block g9 (Array.getElem?_eq_some_iff.1 HK92.out).1).trans HK92.out)
            have HK103 := Lib.hid ((hb.block g10 (Array.getElem?_eq_some_iff.1 HK102.out).1).trans HK102.out)
            refine lexGQ_more (Hof.out _ HB3.out) ?_
            generalize V2.alloc (.cells #[.int .i64 0, .int .i64 0, .int .u32 0, .int .u32 0] 29) = V3 at *
            clear hn hb hg8
            have HL := Lib.hid (show ((g8 ≠ g9 ∧ g8 ≠ g10) ∧ g9 ≠ g10) ∧ (w1.heap.size ≤ g8 ∧ w1.heap.size ≤ g9) ∧ w1.heap.size ≤ g10 by have := HS8.out; have := HS9.out; have := HS10.out; have := HB0.out.size; have := HB1.out.size; have := HB2.out.size; omega)
            refine lexG_one (by kernel_rfl) (by kernel_rfl) ?_
            simp only [opsAt, List.filterMap_cons, List.filterMap_nil, List.getElem?_toArray, List.getElem?_cons_succ, List.getElem?_cons_zero]
            change wpList _ _ _ (_ :: []) _ _
            have k0 := cell_of HK83.out 0
            have z0 := frozen_of HK83.out 0
            have k1 := cell_of HK83.out 1
            have z1 := frozen_of HK83.out 1
            have k2 := cell_of HK83.out 2
            have z2 := frozen_of HK83.out 2
            have k3 := cell_of HK83.out 3
            have z3 := frozen_of HK83.out 3
            simp only [List.getElem?_toArray, List.getElem?_cons_zero, List.getElem?_cons_succ] at k0 k1 k2 k3
            have hkl := (Array.getElem?_eq_some_iff.1 HK83.out).1
            go_wp2_with fail
            rw [← set4 V3 g8]
            have hM := mods4 V3 g8 (.int .i64 kd) (.int .i64 ad) (.int .u32 va) (.int .u32 ol)
            have HK84 := Lib.hid (block4 HK83.out (.int .i64 kd) (.int .i64 ad) (.int .u32 va) (.int .u32 ol))
            have HB4 := Lib.hid (HB3.out.trans (hM.below HB3.out.size fun q (hq : q = g8) => by have := HL.out; omega))
            have HK94 := Lib.hid ((hM.block g9 (Array.getElem?_eq_some_iff.1 HK93.out).1 (fun (h : g9 = g8) => by have := HL.out; omega)).trans HK93.out)
            have HK104 := Lib.hid ((hM.block g10 (Array.getElem?_eq_some_iff.1 HK103.out).1 (fun (h : g10 = g8) => by have := HL.out; omega)).trans HK103.out)
            refine lexGQ_more (Hof.out _ HB4.out) ?_
            generalize V3.setCells g8 0 [.int .i64 kd, .int .i64 ad, .int .u32 va, .int .u32 ol] = V4 at *
            clear hM k0 k1 k2 k3 z0 z1 z2 z3 hkl
            refine lexG_one (by kernel_rfl) (by kernel_rfl) ?_
            simp only [opsAt, List.filterMap_cons, List.filterMap_nil, List.getElem?_toArray, List.getElem?_cons_succ, List.getElem?_cons_zero]
            change wpList _ _ _ (_ :: []) _ _
            have k0 := cell_of HK94.out 0
            have z0 := frozen_of HK94.out 0
            have k1 := cell_of HK94.out 1
            have z1 := frozen_of HK94.out 1
            have k2 := cell_of HK94.out 2
            have z2 := frozen_of HK94.out 2
            have k3 := cell_of HK94.out 3
            have z3 := frozen_of HK94.out 3
            simp only [List.getElem?_toArray, List.getElem?_cons_zero, List.getElem?_cons_succ] at k0 k1 k2 k3
            have hkl := (Array.getElem?_eq_some_iff.1 HK94.out).1
            go_wp2_with fail
            rw [← set4 V4 g9]
            have hM := mods4 V4 g9 (.int .i64 kd) (.int .i64 ad) (.int .u32 va) (.int .u32 ol)
            have HK95 := Lib.hid (block4 HK94.out (.int .i64 kd) (.int .i64 ad) (.int .u32 va) (.int .u32 ol))
            have HB5 := Lib.hid (HB4.out.trans (hM.below HB4.out.size fun q (hq : q = g9) => by have := HL.out; omega))
            have HK85 := Lib.hid ((hM.block g8 (Array.getElem?_eq_some_iff.1 HK84.out).1 (fun (h : g8 = g9) => by have := HL.out; omega)).trans HK84.out)
            have HK105 := Lib.hid ((hM.block g10 (Array.getElem?_eq_some_iff.1 HK104.out).1 (fun (h : g10 = g9) => by have := HL.out; omega)).trans HK104.out)
            refine lexGQ_more (Hof.out _ HB5.out) ?_
            generalize V4.setCells g9 0 [.int .i64 kd, .int .i64 ad, .int .u32 va, .int .u32 ol] = V5 at *
            clear hM k0 k1 k2 k3 z0 z1 z2 z3 hkl
            refine lexG_one (by kernel_rfl) (by kernel_rfl) ?_
            simp only [opsAt, List.filterMap_cons, List.filterMap_nil, List.getElem?_toArray, List.getElem?_cons_succ, List.getElem?_cons_zero]
            change wpList _ _ _ (_ :: []) _ _
            have k0 := cell_of HK105.out 0
            have z0 := frozen_of HK105.out 0
            have k1 := cell_of HK105.out 1
            have z1 := frozen_of HK105.out 1
            have k2 := cell_of HK105.out 2
            have z2 := frozen_of HK105.out 2
            have k3 := cell_of HK105.out 3
            have z3 := frozen_of HK105.out 3
            simp only [List.getElem?_toArray, List.getElem?_cons_zero, List.getElem?_cons_succ] at k0 k1 k2 k3
            have hkl := (Array.getElem?_eq_some_iff.1 HK105.out).1
            go_wp2_with fail
            rw [← set4 V5 g10]
            have hM := mods4 V5 g10 (.int .i64 kd) (.int .i64 ad) (.int .u32 va) (.int .u32 ol)
            have HK106 := Lib.hid (block4 HK105.out (.int .i64 kd) (.int .i64 ad) (.int .u32 va) (.int .u32 ol))
            have HB6 := Lib.hid (HB5.out.trans (hM.below HB5.out.size fun q (hq : q = g10) => by have := HL.out; omega))
            have HK86 := Lib.hid ((hM.block g8 (Array.getElem?_eq_some_iff.1 HK85.out).1 (fun (h : g8 = g10) => by have := HL.out; omega)).trans HK85.out)
            have HK96 := Lib.hid ((hM.block g9 (Array.getElem?_eq_some_iff.1 HK95.out).1 (fun (h : g9 = g10) => by have := HL.out; omega)).trans HK95.out)
            refine lexGQ_more (Hof.out _ HB6.out) ?_
            generalize V5.setCells g10 0 [.int .i64 kd, .int .i64 ad, .int .u32 va, .int .u32 ol] = V6 at *
            clear hM k0 k1 k2 k3 z0 z1 z2 z3 hkl
            refine lexG_done ?_
            go_wp2_with fail
            go_meet
            case rel => exact ⟨g8, g9, g10, rfl, rfl, rfl, HL.out.1.1.1, HL.out.1.1.2, HL.out.1.2, HL.out.2.1.1, HL.out.2.1.2, HL.out.2.2, HB6.out, HK86.out, HK96.out, HK106.out⟩
        · simp only [opsAt, List.filterMap_cons, List.filterMap_nil, List.getElem?_toArray, List.getElem?_cons_succ, List.getElem?_cons_zero]
          change wpList _ _ _ (_ :: []) _ _
          go_wp2_with fail
          obtain ⟨g10, hg10⟩ : ∃ g, g = V0.heap.size := ⟨_, rfl⟩
          have hn := heap_alloc_new V0 (.cells #[.int .i64 0, .int .i64 0, .int .u32 0, .int .u32 0] 29)
          have hb : Below V0.heap.size V0 (V0.alloc (.cells #[.int .i64 0, .int .i64 0, .int .u32 0, .int .u32 0] 29)) := (Below.refl _ _).alloc (Nat.le_refl _) _
          rw [← hg10] at hn ⊢
          have HB1 := Lib.hid (HB0.out.trans (hb.mono HB0.out.size))
          have HK101 := Lib.hid hn
          have HS10 := Lib.hid (show g10 = V0.heap.size ∧ (V0.alloc (.cells #[.int .i64 0, .int .i64 0, .int .u32 0, .int .u32 0] 29)).heap.size = V0.heap.size + 1 from ⟨hg10, by simp⟩)
          refine lexGQ_more (Hof.out _ HB1.out) ?_
          generalize V0.alloc (.cells #[.int .i64 0, .int .i64 0, .int .u32 0, .int .u32 0] 29) = V1 at *
          clear hn hb hg10
          refine lexG_two (k := 3) (m := 4) (R := [3, 6, 7, 8]) (by kernel_rfl) (by kernel_rfl) (by kernel_rfl) (by kernel_rfl) ?_ ?_
          · simp only [opsAt, List.filterMap_cons, List.filterMap_nil, List.getElem?_toArray, List.getElem?_cons_succ, List.getElem?_cons_zero]
            change wpList _ _ _ (_ :: []) _ _
            go_wp2_with fail
            obtain ⟨g8, hg8⟩ : ∃ g, g = V1.heap.size := ⟨_, rfl⟩
            have hn := heap_alloc_new V1 (.cells #[.int .i64 0, .int .i64 0, .int .u32 0, .int .u32 0] 29)
            have hb : Below V1.heap.size V1 (V1.alloc (.cells #[.int .i64 0, .int .i64 0, .int .u32 0, .int .u32 0] 29)) := (Below.refl _ _).alloc (Nat.le_refl _) _
            rw [← hg8] at hn ⊢
            have HB2 := Lib.hid (HB1.out.trans (hb.mono HB1.out.size))
            have HK82 := Lib.hid hn
            have HS8 := Lib.hid (show g8 = V1.heap.size ∧ (V1.alloc (.cells #[.int .i64 0, .int .i64 0, .int .u32 0, .int .u32 0] 29)).heap.size = V1.heap.size + 1 from ⟨hg8, by simp⟩)
            have HK102 := Lib.hid ((hb.block g10 (Array.getElem?_eq_some_iff.1 HK101.out).1).trans HK101.out)
            refine lexGQ_more (Hof.out _ HB2.out) ?_
            generalize V1.alloc (.cells #[.int .i64 0, .int .i64 0, .int .u32 0, .int .u32 0] 29) = V2 at *
            clear hn hb hg8
            refine lexG_one (by kernel_rfl) (by kernel_rfl) ?_
            simp only [opsAt, List.filterMap_cons, List.filterMap_nil, List.getElem?_toArray, List.getElem?_cons_succ, List.getElem?_cons_zero]
            change wpList _ _ _ (_ :: []) _ _
            go_wp2_with fail
            obtain ⟨g9, hg9⟩ : ∃ g, g = V2.heap.size := ⟨_, rfl⟩
            have hn := heap_alloc_new V2 (.cells #[.int .i64 0, .int .i64 0, .int .u32 0, .int .u32 0] 29)
            have hb : Below V2.heap.size V2 (V2.alloc (.cells #[.int .i64 0, .int .i64 0, .int .u32 0, .int .u32 0] 29)) := (Below.refl _ _).alloc (Nat.le_refl _) _
            rw [← hg9] at hn ⊢
            have HB3 := Lib.hid (HB2.out.trans (hb.mono HB2.out.size))
            have HK93 := Lib.hid hn
            have HS9 := Lib.hid (show g9 = V2.heap.size ∧ (V2.alloc (.cells #[.int .i64 0, .int .i64 0, .int .u32 0, .int .u32 0] 29)).heap.size = V2.heap.size + 1 from ⟨hg9, by simp⟩)
            have HK103 := Lib.hid ((hb.block g10 (Array.getElem?_eq_some_iff.1 HK102.out).1).trans HK102.out)
            have HK83 := Lib.hid ((hb.block g8 (Array.getElem?_eq_some_iff.1 HK82.out).1).trans HK82.out)
            refine lexGQ_more (Hof.out _ HB3.out) ?_
            generalize V2.alloc (.cells #[.int .i64 0, .int .i64 0, .int .u32 0, .int .u32 0] 29) = V3 at *
            clear hn hb hg9
            have HL := Lib.hid (show ((g8 ≠ g9 ∧ g8 ≠ g10) ∧ g9 ≠ g10) ∧ (w1.heap.size ≤ g8 ∧ w1.heap.size ≤ g9) ∧ w1.heap.size ≤ g10 by have := HS8.out; have := HS9.out; have := HS10.out; have := HB0.out.size; have := HB1.out.size; have := HB2.out.size; omega)
            refine lexG_one (by kernel_rfl) (by kernel_rfl) ?_
            simp only [opsAt, List.filterMap_cons, List.filterMap_nil, List.getElem?_toArray, List.getElem?_cons_succ, List.getElem?_cons_zero]
            change wpList _ _ _ (_ :: []) _ _
            have k0 := cell_of HK83.out 0
            have z0 := frozen_of HK83.out 0
            have k1 := cell_of HK83.out 1
            have z1 := frozen_of HK83.out 1
            have k2 := cell_of HK83.out 2
            have z2 := frozen_of HK83.out 2
            have k3 := cell_of HK83.out 3
            have z3 := frozen_of HK83.out 3
            simp only [List.getElem?_toArray, List.getElem?_cons_zero, List.getElem?_cons_succ] at k0 k1 k2 k3
            have hkl := (Array.getElem?_eq_some_iff.1 HK83.out).1
            go_wp2_with fail
            rw [← set4 V3 g8]
            have hM := mods4 V3 g8 (.int .i64 kd) (.int .i64 ad) (.int .u32 va) (.int .u32 ol)
            have HK84 := Lib.hid (block4 HK83.out (.int .i64 kd) (.int .i64 ad) (.int .u32 va) (.int .u32 ol))
            have HB4 := Lib.hid (HB3.out.trans (hM.below HB3.out.size fun q (hq : q = g8) => by have := HL.out; omega))
            have HK94 := Lib.hid ((hM.block g9 (Array.getElem?_eq_some_iff.1 HK93.out).1 (fun (h : g9 = g8) => by have := HL.out; omega)).trans HK93.out)
            have HK104 := Lib.hid ((hM.block g10 (Array.getElem?_eq_some_iff.1 HK103.out).1 (fun (h : g10 = g8) => by have := HL.out; omega)).trans HK103.out)
            refine lexGQ_more (Hof.out _ HB4.out) ?_
            generalize V3.setCells g8 0 [.int .i64 kd, .int .i64 ad, .int .u32 va, .int .u32 ol] = V4 at *
            clear hM k0 k1 k2 k3 z0 z1 z2 z3 hkl
            refine lexG_one (by kernel_rfl) (by kernel_rfl) ?_
            simp only [opsAt, List.filterMap_cons, List.filterMap_nil, List.getElem?_toArray, List.getElem?_cons_succ, List.getElem?_cons_zero]
            change wpList _ _ _ (_ :: []) _ _
            have k0 := cell_of HK94.out 0
            have z0 := frozen_of HK94.out 0
            have k1 := cell_of HK94.out 1
            have z1 := frozen_of HK94.out 1
            have k2 := cell_of HK94.out 2
            have z2 := frozen_of HK94.out 2
            have k3 := cell_of HK94.out 3
            have z3 := frozen_of HK94.out 3
            simp only [List.getElem?_toArray, List.getElem?_cons_zero, List.getElem?_cons_succ] at k0 k1 k2 k3
            have hkl := (Array.getElem?_eq_some_iff.1 HK94.out).1
            go_wp2_with fail
            rw [← set4 V4 g9]
            have hM := mods4 V4 g9 (.int .i64 kd) (.int .i64 ad) (.int .u32 va) (.int .u32 ol)
            have HK95 := Lib.hid (block4 HK94.out (.int .i64 kd) (.int .i64 ad) (.int .u32 va) (.int .u32 ol))
            have HB5 := Lib.hid (HB4.out.trans (hM.below HB4.out.size fun q (hq : q = g9) => by have := HL.out; omega))
            have HK85 := Lib.hid ((hM.block g8 (Array.getElem?_eq_some_iff.1 HK84.out).1 (fun (h : g8 = g9) => by have := HL.out; omega)).trans HK84.out)
            have HK105 := Lib.hid ((hM.block g10 (Array.getElem?_eq_some_iff.1 HK104.out).1 (fun (h : g10 = g9) => by have := HL.out; omega)).trans HK104.out)
            refine lexGQ_more (Hof.out _ HB5.out) ?_
            generalize V4.setCells g9 0 [.int .i64 kd, .int .i64 ad, .int .u32 va, .int .u32 ol] = V5 at *
            clear hM k0 k1 k2 k3 z0 z1 z2 z3 hkl
            refine lexG_one (by kernel_rfl) (by kernel_rfl) ?_
            simp only [opsAt, List.filterMap_cons, List.filterMap_nil, List.getElem?_toArray, List.getElem?_cons_succ, List.getElem?_cons_zero]
            change wpList _ _ _ (_ :: []) _ _
            have k0 := cell_of HK105.out 0
            have z0 := frozen_of HK105.out 0
            have k1 := cell_of HK105.out 1
            have z1 := frozen_of HK105.out 1
            have k2 := cell_of HK105.out 2
            have z2 := frozen_of HK105.out 2
            have k3 := cell_of HK105.out 3
            have z3 := frozen_of HK105.out 3
            simp only [List.getElem?_toArray, List.getElem?_cons_zero, List.getElem?_cons_succ] at k0 k1 k2 k3
            have hkl := (Array.getElem?_eq_some_iff.1 HK105.out).1
            go_wp2_with fail
            rw [← set4 V5 g10]
            have hM := mods4 V5 g10 (.int .i64 kd) (.int .i64 ad) (.int .u32 va) (.int .u32 ol)
            have HK106 := Lib.hid (block4 HK105.out (.int .i64 kd) (.int .i64 ad) (.int .u32 va) (.int .u32 ol))
            have HB6 := Lib.hid (HB5.out.trans (hM.below HB5.out.size fun q (hq : q = g10) => by have := HL.out; omega))
            have HK86 := Lib.hid ((hM.block g8 (Array.getElem?_eq_some_iff.1 HK85.out).1 (fun (h : g8 = g10) => by have := HL.out; omega)).trans HK85.out)
            have HK96 := Lib.hid ((hM.block g9 (Array.getElem?_eq_some_iff.1 HK95.out).1 (fun (h : g9 = g10) => by have := HL.out; omega)).trans HK95.out)
            refine lexGQ_more (Hof.out _ HB6.out) ?_
            generalize V5.setCells g10 0 [.int .i64 kd, .int .i64 ad, .int .u32 va, .int .u32 ol] = V6 at *
            clear hM k0 k1 k2 k3 z0 z1 z2 z3 hkl
            refine lexG_done ?_
            go_wp2_with fail
            go_meet
            case rel => exact ⟨g8, g9, g10, rfl, rfl, rfl, HL.out.1.1.1, HL.out.1.1.2, HL.out.1.2, HL.out.2.1.1, HL.out.2.1.2, HL.out.2.2, HB6.out, HK86.out, HK96.out, HK106.out⟩
          · simp only [opsAt, List.filterMap_cons, List.filterMap_nil, List.getElem?_toArray, List.getElem?_cons_succ, List.getElem?_cons_zero]
            change wpList _ _ _ (_ :: []) _ _
            go_wp2_with fail
            obtain ⟨g9, hg9⟩ : ∃ g, g = V1.heap.size := ⟨_, rfl⟩
            have hn := heap_alloc_new V1 (.cells #[.int .i64 0, .int .i64 0, .int .u32 0, .int .u32 0] 29)
            have hb : Below V1.heap.size V1 (V1.alloc (.cells #[.int .i64 0, .int .i64 0, .int .u32 0, .int .u32 0] 29)) := (Below.refl _ _).alloc (Nat.le_refl _) _
            rw [← hg9] at hn ⊢
            have HB2 := Lib.hid (HB1.out.trans (hb.mono HB1.out.size))
            have HK92 := Lib.hid hn
            have HS9 := Lib.hid (show g9 = V1.heap.size ∧ (V1.alloc (.cells #[.int .i64 0, .int .i64 0, .int .u32 0, .int .u32 0] 29)).heap.size = V1.heap.size + 1 from ⟨hg9, by simp⟩)
            have HK102 := Lib.hid ((hb.block g10 (Array.getElem?_eq_some_iff.1 HK101.out).1).trans HK101.out)
            refine lexGQ_more (Hof.out _ HB2.out) ?_
            generalize V1.alloc (.cells #[.int .i64 0, .int .i64 0, .int .u32 0, .int .u32 0] 29) = V2 at *
            clear hn hb hg9
            refine lexG_one (by kernel_rfl) (by kernel_rfl) ?_
            simp only [opsAt, List.filterMap_cons, List.filterMap_nil, List.getElem?_toArray, List.getElem?_cons_succ, List.getElem?_cons_zero]
            change wpList _ _ _ (_ :: []) _ _
            go_wp2_with fail
            obtain ⟨g8, hg8⟩ : ∃ g, g = V2.heap.size := ⟨_, rfl⟩
            have hn := heap_alloc_new V2 (.cells #[.int .i64 0, .int .i64 0, .int .u32 0, .int .u32 0] 29)
            have hb : Below V2.heap.size V2 (V2.alloc (.cells #[.int .i64 0, .int .i64 0, .int .u32 0, .int .u32 0] 29)) := (Below.refl _ _).alloc (Nat.le_refl _) _
            rw [← hg8] at hn ⊢
            have HB3 := Lib.hid (HB2.out.trans (hb.mono HB2.out.size))
            have HK83 := Lib.hid hn
            have HS8 := Lib.hid (show g8 = V2.heap.size ∧ (V2.alloc (.cells #[.int .i64 0, .int .i64 0, .int .u32 0, .int .u32 0] 29)).heap.size = V2.heap.size + 1 from ⟨hg8, by simp⟩)
            have HK103 := Lib.hid ((hb.block g10 (Array.getElem?_eq_some_iff.1 HK102.out).1).trans HK102.out)
            have HK93 := Lib.hid ((hb.block g9 (Array.getElem?_eq_some_iff.1 HK92.out).1).trans HK92.out)
            refine lexGQ_more (Hof.out _ HB3.out) ?_
            generalize V2.alloc (.cells #[.int .i64 0, .int .i64 0, .int .u32 0, .int .u32 0] 29) = V3 at *
            clear hn hb hg8
            have HL := Lib.hid (show ((g8 ≠ g9 ∧ g8 ≠ g10) ∧ g9 ≠ g10) ∧ (w1.heap.size ≤ g8 ∧ w1.heap.size ≤ g9) ∧ w1.heap.size ≤ g10 by have := HS8.out; have := HS9.out; have := HS10.out; have := HB0.out.size; have := HB1.out.size; have := HB2.out.size; omega)
            refine lexG_one (by kernel_rfl) (by kernel_rfl) ?_
            simp only [opsAt, List.filterMap_cons, List.filterMap_nil, List.getElem?_toArray, List.getElem?_cons_succ, List.getElem?_cons_zero]
            change wpList _ _ _ (_ :: []) _ _
            have k0 := cell_of HK83.out 0
            have z0 := frozen_of HK83.out 0
            have k1 := cell_of HK83.out 1
            have z1 := frozen_of HK83.out 1
            have k2 := cell_of HK83.out 2
            have z2 := frozen_of HK83.out 2
            have k3 := cell_of HK83.out 3
            have z3 := frozen_of HK83.out 3
            simp only [List.getElem?_toArray, List.getElem?_cons_zero, List.getElem?_cons_succ] at k0 k1 k2 k3
            have hkl := (Array.getElem?_eq_some_iff.1 HK83.out).1
            go_wp2_with fail
            rw [← set4 V3 g8]
            have hM := mods4 V3 g8 (.int .i64 kd) (.int .i64 ad) (.int .u32 va) (.int .u32 ol)
            have HK84 := Lib.hid (block4 HK83.out (.int .i64 kd) (.int .i64 ad) (.int .u32 va) (.int .u32 ol))
            have HB4 := Lib.hid (HB3.out.trans (hM.below HB3.out.size fun q (hq : q = g8) => by have := HL.out; omega))
            have HK94 := Lib.hid ((hM.block g9 (Array.getElem?_eq_some_iff.1 HK93.out).1 (fun (h : g9 = g8) => by have := HL.out; omega)).trans HK93.out)
            have HK104 := Lib.hid ((hM.block g10 (Array.getElem?_eq_some_iff.1 HK103.out).1 (fun (h : g10 = g8) => by have := HL.out; omega)).trans HK103.out)
            refine lexGQ_more (Hof.out _ HB4.out) ?_
            generalize V3.setCells g8 0 [.int .i64 kd, .int .i64 ad, .int .u32 va, .int .u32 ol] = V4 at *
            clear hM k0 k1 k2 k3 z0 z1 z2 z3 hkl
            refine lexG_one (by kernel_rfl) (by kernel_rfl) ?_
            simp only [opsAt, List.filterMap_cons, List.filterMap_nil, List.getElem?_toArray, List.getElem?_cons_succ, List.getElem?_cons_zero]
            change wpList _ _ _ (_ :: []) _ _
            have k0 := cell_of HK94.out 0
            have z0 := frozen_of HK94.out 0
            have k1 := cell_of HK94.out 1
            have z1 := frozen_of HK94.out 1
            have k2 := cell_of HK94.out 2
            have z2 := frozen_of HK94.out 2
            have k3 := cell_of HK94.out 3
            have z3 := frozen_of HK94.out 3
            simp only [List.getElem?_toArray, List.getElem?_cons_zero, List.getElem?_cons_succ] at k0 k1 k2 k3
            have hkl := (Array.getElem?_eq_some_iff.1 HK94.out).1
            go_wp2_with fail
            rw [← set4 V4 g9]
            have hM := mods4 V4 g9 (.int .i64 kd) (.int .i64 ad) (.int .u32 va) (.int .u32 ol)
            have HK95 := Lib.hid (block4 HK94.out (.int .i64 kd) (.int .i64 ad) (.int .u32 va) (.int .u32 ol))
            have HB5 := Lib.hid (HB4.out.trans (hM.below HB4.out.size fun q (hq : q = g9) => by have := HL.out; omega))
            have HK85 := Lib.hid ((hM.block g8 (Array.getElem?_eq_some_iff.1 HK84.out).1 (fun (h : g8 = g9) => by have := HL.out; omega)).trans HK84.out)
            have HK105 := Lib.hid ((hM.block g10 (Array.getElem?_eq_some_iff.1 HK104.out).1 (fun (h : g10 = g9) => by have := HL.out; omega)).trans HK104.out)
            refine lexGQ_more (Hof.out _ HB5.out) ?_
            generalize V4.setCells g9 0 [.int .i64 kd, .int .i64 ad, .int .u32 va, .int .u32 ol] = V5 at *
            clear hM k0 k1 k2 k3 z0 z1 z2 z3 hkl
            refine lexG_one (by kernel_rfl) (by kernel_rfl) ?_
            simp only [opsAt, List.filterMap_cons, List.filterMap_nil, List.getElem?_toArray, List.getElem?_cons_succ, List.getElem?_cons_zero]
            change wpList _ _ _ (_ :: []) _ _
            have k0 := cell_of HK105.out 0
            have z0 := frozen_of HK105.out 0
            have k1 := cell_of HK105.out 1
            have z1 := frozen_of HK105.out 1
            have k2 := cell_of HK105.out 2
            have z2 := frozen_of HK105.out 2
            have k3 := cell_of HK105.out 3
            have z3 := frozen_of HK105.out 3
            simp only [List.getElem?_toArray, List.getElem?_cons_zero, List.getElem?_cons_succ] at k0 k1 k2 k3
            have hkl := (Array.getElem?_eq_some_iff.1 HK105.out).1
            go_wp2_with fail
            rw [← set4 V5 g10]
            have hM := mods4 V5 g10 (.int .i64 kd) (.int .i64 ad) (.int .u32 va) (.int .u32 ol)
            have HK106 := Lib.hid (block4 HK105.out (.int .i64 kd) (.int .i64 ad) (.int .u32 va) (.int .u32 ol))
            have HB6 := Lib.hid (HB5.out.trans (hM.below HB5.out.size fun q (hq : q = g10) => by have := HL.out; omega))
            have HK86 := Lib.hid ((hM.block g8 (Array.getElem?_eq_some_iff.1 HK85.out).1 (fun (h : g8 = g10) => by have := HL.out; omega)).trans HK85.out)
            have HK96 := Lib.hid ((hM.block g9 (Array.getElem?_eq_some_iff.1 HK95.out).1 (fun (h : g9 = g10) => by have := HL.out; omega)).trans HK95.out)
            refine lexGQ_more (Hof.out _ HB6.out) ?_
            generalize V5.setCells g10 0 [.int .i64 kd, .int .i64 ad, .int .u32 va, .int .u32 ol] = V6 at *
            clear hM k0 k1 k2 k3 z0 z1 z2 z3 hkl
            refine lexG_done ?_
            go_wp2_with fail
            go_meet
            case rel => exact ⟨g8, g9, g10, rfl, rfl, rfl, HL.out.1.1.1, HL.out.1.1.2, HL.out.1.2, HL.out.2.1.1, HL.out.2.1.2, HL.out.2.2, HB6.out, HK86.out, HK96.out, HK106.out⟩
      case rest =>
        obtain ⟨g8, g9, g10, rfl, rfl, rfl, hABC⟩ := hcut
        have HA := Lib.hid hABC
        clear hABC q0 q1 q2 q3
        generalize wc = V at *
        have HOL := Lib.hid (show hO < V.heap.size ∧ (hO ≠ g8 ∧ hO ≠ g9) ∧ hO ≠ g10 by have := HA.out.bel.size; have := HA.out.l8; have := HA.out.l9; have := HA.out.l10; omega)
        have HXV := Lib.hid ((HA.out.bel.block hO hlx).trans HX1.out)
        go_upto_region 5 with fail
        refine wp_region_lexA ⟨[], []⟩ (fun x => Mods (fun q => q = g8 ∨ q = g9 ∨ q = g10) V x) (by kernel_rfl) (by kernel_rfl) (Mods.refl _ _).drew ?_
        intro S hto hof hne
        have HXS := Lib.hid (fun z : Wd S => ((hto z).block hO HOL.out.1 (fun h => by have := HOL.out; omega)).trans HXV.out)
        have y2 : ∀ z : Wd S, z.w.cell? ⟨hO, 2, none⟩ = some (.int .u32 va) := fun z => cell_of (HXS.out z) 2
        have y3 : ∀ z : Wd S, z.w.cell? ⟨hO, 3, none⟩ = some (.int .u32 ol) := fun z => cell_of (HXS.out z) 3
        have Hof := Lib.hid hof
        clear hto hof
        refine lexW_light 10 (by kernel_rfl) ?_
        simp only [List.take_succ_cons, List.take_zero, List.drop_succ_cons, List.drop_zero]
        repeat (first | go_big_quiet_skip | (go_big_quiet_want; go_big_quiet_op; go_big_quiet_on))
        refine wpQuiet_nil ?_
        clear y2 y3
        have k3 : V.drew.cell? ⟨g8, 3, none⟩ = some (.int .u32 ol) := cell_of HA.out.b8 3
        have z3 : V.drew.frozen? ⟨g8, 3, none⟩ = false := frozen_of (X := V.drew) HA.out.b8 3
        have hl8 := (Array.getElem?_eq_some_iff.1 HA.out.b8).1
        refine lexW_heavy (by kernel_rfl) ?_
        go_wp2_with fail
        obtain ⟨X1, hX1⟩ : ∃ X1, (ol + vv) % 4294967296 = X1 := ⟨_, rfl⟩
        have HX1' := Lib.hid hX1
        rw [hX1]
        have hM1 : Mods (fun q => q = g8) V (V.setCell ⟨g8, 3, none⟩ (.int .u32 X1)).drew := ((Mods.refl (fun q => q = g8) V).setCell (p := ⟨g8, 3, none⟩) rfl _).drew
        have HA1 := Lib.hid (HA.out.turn8 hM1 (c := #[.int .i64 kd, .int .i64 ad, .int .u32 va, .int .u32 X1]) ((heap_setCell_at (k := 3) HA.out.b8 _).trans rfl))
        have HM1 := Lib.hid ((Mods.refl (fun q => q = g8 ∨ q = g9 ∨ q = g10) V).trans hM1 fun i _ h => .inl h)
        refine lexQ_more (Hof.out _ HM1.out) ?_
        generalize (V.setCell ⟨g8, 3, none⟩ (.int .u32 X1)).drew = V1 at *
        clear hX1 hM1 k3 z3 hl8
        refine lexW_light 1 (by kernel_rfl) ?_
        simp only [List.take_succ_cons, List.take_zero, List.drop_succ_cons, List.drop_zero]
        repeat (first | go_big_quiet_skip | (go_big_quiet_want; go_big_quiet_op; go_big_quiet_on))
        refine wpQuiet_nil ?_
        have k2 : V1.cell? ⟨g9, 2, none⟩ = some (.int .u32 va) := cell_of HA1.out.b9 2
        have z2 : V1.frozen? ⟨g9, 2, none⟩ = false := frozen_of HA1.out.b9 2
        have hl9 := (Array.getElem?_eq_some_iff.1 HA1.out.b9).1
        refine lexW_heavy (by kernel_rfl) ?_
        go_wp2_with fail
        obtain ⟨X2, hX2⟩ : ∃ X2, (va + vv) % 4294967296 = X2 := ⟨_, rfl⟩
        have HX2 := Lib.hid hX2
        rw [hX2]
        have hM2 : Mods (fun q => q = g9) V1 (V1.setCell ⟨g9, 2, none⟩ (.int .u32 X2)) := (Mods.refl (fun q => q = g9) V1).setCell (p := ⟨g9, 2, none⟩) rfl _
        have HA2 := Lib.hid (HA1.out.turn9 hM2 (c := #[.int .i64 kd, .int .i64 ad, .int .u32 X2, .int .u32 ol]) ((heap_setCell_at (k := 2) HA1.out.b9 _).trans rfl))
        have HM2 := Lib.hid (HM1.out.trans hM2 fun i _ h => .inr (.inl h))
        refine lexQ_more (Hof.out _ HM2.out) ?_
        generalize V1.setCell ⟨g9, 2, none⟩ (.int .u32 X2) = V2 at *
        clear hX2 hM2 k2 z2 hl9
        refine lexW_light 1 (by kernel_rfl) ?_
        simp only [List.take_succ_cons, List.take_zero, List.drop_succ_cons, List.drop_zero]
        repeat (first | go_big_quiet_skip | (go_big_quiet_want; go_big_quiet_op; go_big_quiet_on))
        refine wpQuiet_nil ?_
        have k1 : V2.cell? ⟨g10, 1, none⟩ = some (.int .i64 ad) := cell_of HA2.out.b10 1
        have z1 : V2.frozen? ⟨g10, 1, none⟩ = false := frozen_of HA2.out.b10 1
        have hl10 := (Array.getElem?_eq_some_iff.1 HA2.out.b10).1
        refine lexW_heavy (by kernel_rfl) ?_
        go_wp2_with fail
        have hM3 : Mods (fun q => q = g10) V2 (V2.setCell ⟨g10, 1, none⟩ (.int .i64 W)) := (Mods.refl (fun q => q = g10) V2).setCell (p := ⟨g10, 1, none⟩) rfl _
        have HA3 := Lib.hid (HA2.out.turn10 hM3 (c := #[.int .i64 kd, .int .i64 W, .int .u32 va, .int .u32 ol]) ((heap_setCell_at (k := 1) HA2.out.b10 _).trans rfl))
        have HM3 := Lib.hid (HM2.out.trans hM3 fun i _ h => .inr (.inr h))
        refine lexQ_more (Hof.out _ HM3.out) ?_
        generalize V2.setCell ⟨g10, 1, none⟩ (.int .i64 W) = V3 at *
        clear hM3 k1 z1 hl10
        refine lexW_done ?_
        clear HXV HXS HA HA1 HA2 HM1 HM2 HM3 hlx Hof hne
        have HO3 := Lib.hid (show hO < w1.heap.size from (Array.getElem?_eq_some_iff.1 HX1.out).1)
        rcases right_kind HR.out with h | h | h | h
        · simp only at h
          subst h
          have HR0 := HR.out
          unfold rightB at HR0
          have hX1 := HX1'.out
          have hX2 := HX2.out
          have hvb := HVB.out
          have hv0 := HV0.out
          have hwb := HWB.out
          have hof := HOF.out
          unfold OpV.fit at hof
          simp only at hof
          have RA := Lib.hid (show rightB ⟨(1 : Int), ad, va, X1⟩ W = false by unfold rightB; simp only [show nmA ((1 : Int) : Int) = true from rfl, show nmV ((1 : Int) : Int) = false from rfl, show nmO ((1 : Int) : Int) = false from rfl] at HR0 ⊢; simp at HR0 ⊢ <;> omega)
          have RB := Lib.hid (show rightB ⟨(1 : Int), ad, X2, ol⟩ W = false by unfold rightB; simp only [show nmA ((1 : Int) : Int) = true from rfl, show nmV ((1 : Int) : Int) = false from rfl, show nmO ((1 : Int) : Int) = false from rfl] at HR0 ⊢; simp at HR0 ⊢ <;> omega)
          have RC := Lib.hid (show rightB ⟨(1 : Int), W, va, ol⟩ W = false by unfold rightB; simp only [show nmA ((1 : Int) : Int) = true from rfl, show nmV ((1 : Int) : Int) = false from rfl, show nmO ((1 : Int) : Int) = false from rfl] at HR0 ⊢; simp at HR0 ⊢ <;> omega)
          have RD := Lib.hid (show rightB ⟨(1 : Int), (-1), va, ol⟩ W = false by unfold rightB; simp only [show nmA ((1 : Int) : Int) = true from rfl, show nmV ((1 : Int) : Int) = false from rfl, show nmO ((1 : Int) : Int) = false from rfl] at HR0 ⊢; simp at HR0 ⊢ <;> omega)
          have RE := Lib.hid (show rightB ⟨(1 : Int), ad, va, ol⟩ (ad + 1) = true by unfold rightB; simp only [show nmA ((1 : Int) : Int) = true from rfl, show nmV ((1 : Int) : Int) = false from rfl, show nmO ((1 : Int) : Int) = false from rfl] at HR0 ⊢; simp at HR0 ⊢ <;> omega)
          have RF := Lib.hid (show rightB ⟨(1 : Int), ad, va, ol⟩ ad = false by unfold rightB; simp only [show nmA ((1 : Int) : Int) = true from rfl, show nmV ((1 : Int) : Int) = false from rfl, show nmO ((1 : Int) : Int) = false from rfl] at HR0 ⊢; simp at HR0 ⊢ <;> omega)
          have hadb : 0 ≤ ad ∧ ad < 128 := by simp only [show nmA ((1 : Int) : Int) = true from rfl, show nmV ((1 : Int) : Int) = false from rfl, show nmO ((1 : Int) : Int) = false from rfl] at HR0; simp at HR0; omega
          have had1 := hadb.1
          have had2 := hadb.2
          clear hadb
          clear HR0 hX1 hX2 hvb hv0 hwb hof
          have HXK := Lib.hid (show ∀ z, Below V3.heap.size V3 z → z.heap[hO]? = some (.cells #[.int .i64 (1 : Int), .int .i64 ad, .int .u32 va, .int .u32 ol] 29 (0, 0)) from fun z hb => ((HA3.out.bel.trans (hb.mono HA3.out.bel.size)).block hO HO3.out).trans HX1.out)
          go_upto_region 6 with fail
          refine wp_region_lexA ⟨[], []⟩ (fun x => Below V3.heap.size V3 x) (by kernel_rfl) (by kernel_rfl) (Below.refl _ _).drew ?_
          intro S hto hof hne
          have a8_0 : ∀ z : Wd S, z.w.cell? ⟨g8, 0, none⟩ = some (.int .i64 (1 : Int)) := fun z => cell_of ((HA3.out.below (hto z)).b8) 0
          have a8_1 : ∀ z : Wd S, z.w.cell? ⟨g8, 1, none⟩ = some (.int .i64 ad) := fun z => cell_of ((HA3.out.below (hto z)).b8) 1
          have a8_2 : ∀ z : Wd S, z.w.cell? ⟨g8, 2, none⟩ = some (.int .u32 va) := fun z => cell_of ((HA3.out.below (hto z)).b8) 2
          have a8_3 : ∀ z : Wd S, z.w.cell? ⟨g8, 3, none⟩ = some (.int .u32 X1) := fun z => cell_of ((HA3.out.below (hto z)).b8) 3
          have a9_0 : ∀ z : Wd S, z.w.cell? ⟨g9, 0, none⟩ = some (.int .i64 (1 : Int)) := fun z => cell_of ((HA3.out.below (hto z)).b9) 0
          have a9_1 : ∀ z : Wd S, z.w.cell? ⟨g9, 1, none⟩ = some (.int .i64 ad) := fun z => cell_of ((HA3.out.below (hto z)).b9) 1
          have a9_2 : ∀ z : Wd S, z.w.cell? ⟨g9, 2, none⟩ = some (.int .u32 X2) := fun z => cell_of ((HA3.out.below (hto z)).b9) 2
          have a9_3 : ∀ z : Wd S, z.w.cell? ⟨g9, 3, none⟩ = some (.int .u32 ol) := fun z => cell_of ((HA3.out.below (hto z)).b9) 3
          have a10_0 : ∀ z : Wd S, z.w.cell? ⟨g10, 0, none⟩ = some (.int .i64 (1 : Int)) := fun z => cell_of ((HA3.out.below (hto z)).b10) 0
          have a10_1 : ∀ z : Wd S, z.w.cell? ⟨g10, 1, none⟩ = some (.int .i64 W) := fun z => cell_of ((HA3.out.below (hto z)).b10) 1
          have a10_2 : ∀ z : Wd S, z.w.cell? ⟨g10, 2, none⟩ = some (.int .u32 va) := fun z => cell_of ((HA3.out.below (hto z)).b10) 2
          have a10_3 : ∀ z : Wd S, z.w.cell? ⟨g10, 3, none⟩ = some (.int .u32 ol) := fun z => cell_of ((HA3.out.below (hto z)).b10) 3
          have o0 : ∀ z : Wd S, z.w.cell? ⟨hO, 0, none⟩ = some (.int .i64 (1 : Int)) := fun z => cell_of (HXK.out z.w (hto z)) 0
          have Hof := Lib.hid hof
          clear hto hof
          refine lexW_light 2 (by kernel_rfl) ?_
          simp only [List.take_succ_cons, List.take_zero, List.drop_succ_cons, List.drop_zero]
          repeat (first | go_big_quiet_skip | (go_big_quiet_want; go_big_quiet_op; go_big_quiet_on))
          refine wpQuiet_nil ?_
          refine lexW_heavy (by kernel_rfl) ?_
          go_wp2_with fail
          refine (right_c ⟨(1 : Int), ad, va, X1⟩ W _).mono ?_
          rintro ev u1 ⟨rfl, hb1⟩
          rw [RA.out]
          have HC1 := Lib.hid ((Below.refl V3.heap.size V3).drew.trans hb1)
          clear hb1
          go_wp2_with fail
          refine lexQ_more (Hof.out _ HC1.out) ?_
          refine lexW_light 7 (by kernel_rfl) ?_
          simp only [List.take_succ_cons, List.take_zero, List.drop_succ_cons, List.drop_zero]
          repeat (first | go_big_quiet_skip | (go_big_quiet_want; go_big_quiet_op; go_big_quiet_on))
          refine wpQuiet_nil ?_
          refine lexW_heavy (by kernel_rfl) ?_
          go_wp2_with fail
          refine (right_c ⟨(1 : Int), ad, X2, ol⟩ W _).mono ?_
          rintro ev u2 ⟨rfl, hb1⟩
          rw [RB.out]
          have HC2 := Lib.hid (HC1.out.trans (hb1.mono HC1.out.size))
          clear hb1
          go_wp2_with fail
          refine lexQ_more (Hof.out _ HC2.out) ?_
          refine lexW_light 13 (by kernel_rfl) ?_
          simp only [List.take_succ_cons, List.take_zero, List.drop_succ_cons, List.drop_zero]
          repeat (first | go_big_quiet_skip | (go_big_quiet_want; go_big_quiet_op; go_big_quiet_on))
          refine wpQuiet_nil ?_
          refine lexW_heavy (by kernel_rfl) ?_
          go_wp2_with fail
          refine (right_c ⟨(1 : Int), W, va, ol⟩ W _).mono ?_
          rintro ev u3 ⟨rfl, hb1⟩
          rw [RC.out]
          have HC3 := Lib.hid (HC2.out.trans (hb1.mono HC2.out.size))
          clear hb1
          go_wp2_with fail
          refine lexQ_more (Hof.out _ HC3.out) ?_
          refine lexW_light 1 (by kernel_rfl) ?_
          simp only [List.take_succ_cons, List.take_zero, List.drop_succ_cons, List.drop_zero]
          repeat (first | go_big_quiet_skip | (go_big_quiet_want; go_big_quiet_op; go_big_quiet_on))
          refine wpQuiet_nil ?_
          refine lexW_done ?_
          clear a8_0 a8_1 a8_2 a8_3 a9_0 a9_1 a9_2 a9_3 a10_0 a10_1 a10_2 a10_3 o0
          have HA4 := Lib.hid (HA3.out.below HC3.out)
          have HXU := Lib.hid (HXK.out u3 HC3.out)
          clear HC1 HC2 HC3 HXK HA3 Hof hne
          have k1 := cell_of HA4.out.b10 1
          have z1 := frozen_of HA4.out.b10 1
          simp only [List.getElem?_toArray, List.getElem?_cons_zero, List.getElem?_cons_succ] at k1
          have hl10 := (Array.getElem?_eq_some_iff.1 HA4.out.b10).1
          go_upto_region 9 with fail
          have hM5 : Mods (fun q => q = g10) u3 (u3.setCell ⟨g10, 1, none⟩ (.int .i64 (-1))) := (Mods.refl (fun q => q = g10) u3).setCell (p := ⟨g10, 1, none⟩) rfl _
          have HA5 := Lib.hid (HA4.out.turn10 hM5 (c := #[.int .i64 (1 : Int), .int .i64 (-1), .int .u32 va, .int .u32 ol]) ((heap_setCell_at (k := 1) HA4.out.b10 _).trans rfl))
          have HXW := Lib.hid ((hM5.block hO (Array.getElem?_eq_some_iff.1 HXU.out).1 (fun (h : hO = g10) => by have := HOL.out; omega)).trans HXU.out)
          generalize u3.setCell ⟨g10, 1, none⟩ (.int .i64 (-1)) = u4 at *
          clear k1 z1 hl10 hM5 HA4 HXU
          have c0 := cell_of HA5.out.b10 0
          have c1 := cell_of HA5.out.b10 1
          have c2 := cell_of HA5.out.b10 2
          have c3 := cell_of HA5.out.b10 3
          have q0 := cell_of HXW.out 0
          have q1 := cell_of HXW.out 1
          have q2 := cell_of HXW.out 2
          have q3 := cell_of HXW.out 3
          simp only [List.getElem?_toArray, List.getElem?_cons_zero, List.getElem?_cons_succ] at c0 c1 c2 c3 q0 q1 q2 q3
          have hlq := (Array.getElem?_eq_some_iff.1 HXW.out).1
          go_wp2_with fail
          refine (right_c ⟨(1 : Int), -1, va, ol⟩ W u4).mono ?_
          rintro ev u5 ⟨rfl, hb5⟩
          rw [RD.out]
          have HU5 := Lib.hid (HB1.out.trans ((HA5.out.bel.trans (hb5.mono HA5.out.bel.size)).mono HB1.out.size))
          have HX5 := Lib.hid ((hb5.block hO hlq).trans HXW.out)
          clear hb5 c0 c1 c2 c3 q0 q1 q2 q3 hlq HXW HA5
          have q0 := cell_of HX5.out 0
          have q1 := cell_of HX5.out 1
          have q2 := cell_of HX5.out 2
          have q3 := cell_of HX5.out 3
          simp only [List.getElem?_toArray, List.getElem?_cons_zero, List.getElem?_cons_succ] at q0 q1 q2 q3
          have hlq := (Array.getElem?_eq_some_iff.1 HX5.out).1
          go_wp2_with fail
          refine (right_c ⟨(1 : Int), ad, va, ol⟩ (ad + 1) u5).mono ?_
          rintro ev u6 ⟨rfl, hb6⟩
          rw [RE.out]
          have HU6 := Lib.hid (HU5.out.trans (hb6.mono HU5.out.size))
          have HX6 := Lib.hid ((hb6.block hO hlq).trans HX5.out)
          clear hb6 q0 q1 q2 q3 hlq HX5
          have q0 := cell_of HX6.out 0
          have q1 := cell_of HX6.out 1
          have q2 := cell_of HX6.out 2
          have q3 := cell_of HX6.out 3
          simp only [List.getElem?_toArray, List.getElem?_cons_zero, List.getElem?_cons_succ] at q0 q1 q2 q3
          have hlq := (Array.getElem?_eq_some_iff.1 HX6.out).1
          go_wp2_with fail
          refine (right_c ⟨(1 : Int), ad, va, ol⟩ ad u6).mono ?_
          rintro ev u7 ⟨rfl, hb7⟩
          rw [RF.out]
          have HU7 := Lib.hid (HU6.out.trans (hb7.mono HU6.out.size))
          clear hb7 q0 q1 q2 q3 hlq HX6
          go_wp2_with fail
          refine (progRuns A _ (HS.out.below HU7.out)).mono ?_
          rintro ev wz ⟨rfl, hbz⟩
          go_wp2_with fail
          go_ret
          exact ⟨rfl, HU7.out.trans (hbz.mono HU7.out.size)⟩
        · simp only at h
          subst h
          have HR0 := HR.out
          unfold rightB at HR0
          have hX1 := HX1'.out
          have hX2 := HX2.out
          have hvb := HVB.out
          have hv0 := HV0.out
          have hwb := HWB.out
          have hof := HOF.out
          unfold OpV.fit at hof
          simp only at hof
          have RA := Lib.hid (show rightB ⟨(2 : Int), ad, va, X1⟩ W = false by unfold rightB; simp only [show nmA ((2 : Int) : Int) = true from rfl, show nmV ((2 : Int) : Int) = true from rfl, show nmO ((2 : Int) : Int) = false from rfl] at HR0 ⊢; simp at HR0 ⊢ <;> omega)
          have RB := Lib.hid (show rightB ⟨(2 : Int), ad, X2, ol⟩ W = true by unfold rightB; simp only [show nmA ((2 : Int) : Int) = true from rfl, show nmV ((2 : Int) : Int) = true from rfl, show nmO ((2 : Int) : Int) = false from rfl] at HR0 ⊢; simp at HR0 ⊢ <;> omega)
          have RC := Lib.hid (show rightB ⟨(2 : Int), W, va, ol⟩ W = false by unfold rightB; simp only [show nmA ((2 : Int) : Int) = true from rfl, show nmV ((2 : Int) : Int) = true from rfl, show nmO ((2 : Int) : Int) = false from rfl] at HR0 ⊢; simp at HR0 ⊢ <;> omega)
          have RD := Lib.hid (show rightB ⟨(2 : Int), (-1), va, ol⟩ W = false by unfold rightB; simp only [show nmA ((2 : Int) : Int) = true from rfl, show nmV ((2 : Int) : Int) = true from rfl, show nmO ((2 : Int) : Int) = false from rfl] at HR0 ⊢; simp at HR0 ⊢ <;> omega)
          have RE := Lib.hid (show rightB ⟨(2 : Int), ad, va, ol⟩ (ad + 1) = true by unfold rightB; simp only [show nmA ((2 : Int) : Int) = true from rfl, show nmV ((2 : Int) : Int) = true from rfl, show nmO ((2 : Int) : Int) = false from rfl] at HR0 ⊢; simp at HR0 ⊢ <;> omega)
          have RF := Lib.hid (show rightB ⟨(2 : Int), ad, va, ol⟩ ad = false by unfold rightB; simp only [show nmA ((2 : Int) : Int) = true from rfl, show nmV ((2 : Int) : Int) = true from rfl, show nmO ((2 : Int) : Int) = false from rfl] at HR0 ⊢; simp at HR0 ⊢ <;> omega)
          have hadb : 0 ≤ ad ∧ ad < 128 := by simp only [show nmA ((2 : Int) : Int) = true from rfl, show nmV ((2 : Int) : Int) = true from rfl, show nmO ((2 : Int) : Int) = false from rfl] at HR0; simp at HR0; omega
          have had1 := hadb.1
          have had2 := hadb.2
          clear hadb
          clear HR0 hX1 hX2 hvb hv0 hwb hof
          have HXK := Lib.hid (show ∀ z, Below V3.heap.size V3 z → z.heap[hO]? = some (.cells #[.int .i64 (2 : Int), .int .i64 ad, .int .u32 va, .int .u32 ol] 29 (0, 0)) from fun z hb => ((HA3.out.bel.trans (hb.mono HA3.out.bel.size)).block hO HO3.out).trans HX1.out)
          go_upto_region 6 with fail
          refine wp_region_lexA ⟨[], []⟩ (fun x => Below V3.heap.size V3 x) (by kernel_rfl) (by kernel_rfl) (Below.refl _ _).drew ?_
          intro S hto hof hne
          have a8_0 : ∀ z : Wd S, z.w.cell? ⟨g8, 0, none⟩ = some (.int .i64 (2 : Int)) := fun z => cell_of ((HA3.out.below (hto z)).b8) 0
          have a8_1 : ∀ z : Wd S, z.w.cell? ⟨g8, 1, none⟩ = some (.int .i64 ad) := fun z => cell_of ((HA3.out.below (hto z)).b8) 1
          have a8_2 : ∀ z : Wd S, z.w.cell? ⟨g8, 2, none⟩ = some (.int .u32 va) := fun z => cell_of ((HA3.out.below (hto z)).b8) 2
          have a8_3 : ∀ z : Wd S, z.w.cell? ⟨g8, 3, none⟩ = some (.int .u32 X1) := fun z => cell_of ((HA3.out.below (hto z)).b8) 3
          have a9_0 : ∀ z : Wd S, z.w.cell? ⟨g9, 0, none⟩ = some (.int .i64 (2 : Int)) := fun z => cell_of ((HA3.out.below (hto z)).b9) 0
          have a9_1 : ∀ z : Wd S, z.w.cell? ⟨g9, 1, none⟩ = some (.int .i64 ad) := fun z => cell_of ((HA3.out.below (hto z)).b9) 1
          have a9_2 : ∀ z : Wd S, z.w.cell? ⟨g9, 2, none⟩ = some (.int .u32 X2) := fun z => cell_of ((HA3.out.below (hto z)).b9) 2
          have a9_3 : ∀ z : Wd S, z.w.cell? ⟨g9, 3, none⟩ = some (.int .u32 ol) := fun z => cell_of ((HA3.out.below (hto z)).b9) 3
          have a10_0 : ∀ z : Wd S, z.w.cell? ⟨g10, 0, none⟩ = some (.int .i64 (2 : Int)) := fun z => cell_of ((HA3.out.below (hto z)).b10) 0
          have a10_1 : ∀ z : Wd S, z.w.cell? ⟨g10, 1, none⟩ = some (.int .i64 W) := fun z => cell_of ((HA3.out.below (hto z)).b10) 1
          have a10_2 : ∀ z : Wd S, z.w.cell? ⟨g10, 2, none⟩ = some (.int .u32 va) := fun z => cell_of ((HA3.out.below (hto z)).b10) 2
          have a10_3 : ∀ z : Wd S, z.w.cell? ⟨g10, 3, none⟩ = some (.int .u32 ol) := fun z => cell_of ((HA3.out.below (hto z)).b10) 3
          have o0 : ∀ z : Wd S, z.w.cell? ⟨hO, 0, none⟩ = some (.int .i64 (2 : Int)) := fun z => cell_of (HXK.out z.w (hto z)) 0
          have Hof := Lib.hid hof
          clear hto hof
          refine lexW_light 2 (by kernel_rfl) ?_
          simp only [List.take_succ_cons, List.take_zero, List.drop_succ_cons, List.drop_zero]
          repeat (first | go_big_quiet_skip | (go_big_quiet_want; go_big_quiet_op; go_big_quiet_on))
          refine wpQuiet_nil ?_
          refine lexW_heavy (by kernel_rfl) ?_
          go_wp2_with fail
          refine (right_c ⟨(2 : Int), ad, va, X1⟩ W _).mono ?_
          rintro ev u1 ⟨rfl, hb1⟩
          rw [RA.out]
          have HC1 := Lib.hid ((Below.refl V3.heap.size V3).drew.trans hb1)
          clear hb1
          go_wp2_with fail
          refine lexQ_more (Hof.out _ HC1.out) ?_
          refine lexW_light 7 (by kernel_rfl) ?_
          simp only [List.take_succ_cons, List.take_zero, List.drop_succ_cons, List.drop_zero]
          repeat (first | go_big_quiet_skip | (go_big_quiet_want; go_big_quiet_op; go_big_quiet_on))
          refine wpQuiet_nil ?_
          refine lexW_heavy (by kernel_rfl) ?_
          go_wp2_with fail
          refine (right_c ⟨(2 : Int), ad, X2, ol⟩ W _).mono ?_
          rintro ev u2 ⟨rfl, hb1⟩
          rw [RB.out]
          have HC2 := Lib.hid (HC1.out.trans (hb1.mono HC1.out.size))
          clear hb1
          go_wp2_with fail
          refine lexQ_more (Hof.out _ HC2.out) ?_
          refine lexW_light 13 (by kernel_rfl) ?_
          simp only [List.take_succ_cons, List.take_zero, List.drop_succ_cons, List.drop_zero]
          repeat (first | go_big_quiet_skip | (go_big_quiet_want; go_big_quiet_op; go_big_quiet_on))
          refine wpQuiet_nil ?_
          refine lexW_heavy (by kernel_rfl) ?_
          go_wp2_with fail
          refine (right_c ⟨(2 : Int), W, va, ol⟩ W _).mono ?_
          rintro ev u3 ⟨rfl, hb1⟩
          rw [RC.out]
          have HC3 := Lib.hid (HC2.out.trans (hb1.mono HC2.out.size))
          clear hb1
          go_wp2_with fail
          refine lexQ_more (Hof.out _ HC3.out) ?_
          refine lexW_light 1 (by kernel_rfl) ?_
          simp only [List.take_succ_cons, List.take_zero, List.drop_succ_cons, List.drop_zero]
          repeat (first | go_big_quiet_skip | (go_big_quiet_want; go_big_quiet_op; go_big_quiet_on))
          refine wpQuiet_nil ?_
          refine lexW_done ?_
          clear a8_0 a8_1 a8_2 a8_3 a9_0 a9_1 a9_2 a9_3 a10_0 a10_1 a10_2 a10_3 o0
          have HA4 := Lib.hid (HA3.out.below HC3.out)
          have HXU := Lib.hid (HXK.out u3 HC3.out)
          clear HC1 HC2 HC3 HXK HA3 Hof hne
          have k1 := cell_of HA4.out.b10 1
          have z1 := frozen_of HA4.out.b10 1
          simp only [List.getElem?_toArray, List.getElem?_cons_zero, List.getElem?_cons_succ] at k1
          have hl10 := (Array.getElem?_eq_some_iff.1 HA4.out.b10).1
          go_upto_region 9 with fail
          have hM5 : Mods (fun q => q = g10) u3 (u3.setCell ⟨g10, 1, none⟩ (.int .i64 (-1))) := (Mods.refl (fun q => q = g10) u3).setCell (p := ⟨g10, 1, none⟩) rfl _
          have HA5 := Lib.hid (HA4.out.turn10 hM5 (c := #[.int .i64 (2 : Int), .int .i64 (-1), .int .u32 va, .int .u32 ol]) ((heap_setCell_at (k := 1) HA4.out.b10 _).trans rfl))
          have HXW := Lib.hid ((hM5.block hO (Array.getElem?_eq_some_iff.1 HXU.out).1 (fun (h : hO = g10) => by have := HOL.out; omega)).trans HXU.out)
          generalize u3.setCell ⟨g10, 1, none⟩ (.int .i64 (-1)) = u4 at *
          clear k1 z1 hl10 hM5 HA4 HXU
          have c0 := cell_of HA5.out.b10 0
          have c1 := cell_of HA5.out.b10 1
          have c2 := cell_of HA5.out.b10 2
          have c3 := cell_of HA5.out.b10 3
          have q0 := cell_of HXW.out 0
          have q1 := cell_of HXW.out 1
          have q2 := cell_of HXW.out 2
          have q3 := cell_of HXW.out 3
          simp only [List.getElem?_toArray, List.getElem?_cons_zero, List.getElem?_cons_succ] at c0 c1 c2 c3 q0 q1 q2 q3
          have hlq := (Array.getElem?_eq_some_iff.1 HXW.out).1
          go_wp2_with fail
          refine (right_c ⟨(2 : Int), -1, va, ol⟩ W u4).mono ?_
          rintro ev u5 ⟨rfl, hb5⟩
          rw [RD.out]
          have HU5 := Lib.hid (HB1.out.trans ((HA5.out.bel.trans (hb5.mono HA5.out.bel.size)).mono HB1.out.size))
          have HX5 := Lib.hid ((hb5.block hO hlq).trans HXW.out)
          clear hb5 c0 c1 c2 c3 q0 q1 q2 q3 hlq HXW HA5
          have q0 := cell_of HX5.out 0
          have q1 := cell_of HX5.out 1
          have q2 := cell_of HX5.out 2
          have q3 := cell_of HX5.out 3
          simp only [List.getElem?_toArray, List.getElem?_cons_zero, List.getElem?_cons_succ] at q0 q1 q2 q3
          have hlq := (Array.getElem?_eq_some_iff.1 HX5.out).1
          go_wp2_with fail
          refine (right_c ⟨(2 : Int), ad, va, ol⟩ (ad + 1) u5).mono ?_
          rintro ev u6 ⟨rfl, hb6⟩
          rw [RE.out]
          have HU6 := Lib.hid (HU5.out.trans (hb6.mono HU5.out.size))
          have HX6 := Lib.hid ((hb6.block hO hlq).trans HX5.out)
          clear hb6 q0 q1 q2 q3 hlq HX5
          have q0 := cell_of HX6.out 0
          have q1 := cell_of HX6.out 1
          have q2 := cell_of HX6.out 2
          have q3 := cell_of HX6.out 3
          simp only [List.getElem?_toArray, List.getElem?_cons_zero, List.getElem?_cons_succ] at q0 q1 q2 q3
          have hlq := (Array.getElem?_eq_some_iff.1 HX6.out).1
          go_wp2_with fail
          refine (right_c ⟨(2 : Int), ad, va, ol⟩ ad u6).mono ?_
          rintro ev u7 ⟨rfl, hb7⟩
          rw [RF.out]
          have HU7 := Lib.hid (HU6.out.trans (hb7.mono HU6.out.size))
          clear hb7 q0 q1 q2 q3 hlq HX6
          go_wp2_with fail
          refine (progRuns A _ (HS.out.below HU7.out)).mono ?_
          rintro ev wz ⟨rfl, hbz⟩
          go_wp2_with fail
          go_ret
          exact ⟨rfl, HU7.out.trans (hbz.mono HU7.out.size)⟩
        · simp only at h
          subst h
          have HR0 := HR.out
          unfold rightB at HR0
          have hX1 := HX1'.out
          have hX2 := HX2.out
          have hvb := HVB.out
          have hv0 := HV0.out
          have hwb := HWB.out
          have hof := HOF.out
          unfold OpV.fit at hof
          simp only at hof
          have RA := Lib.hid (show rightB ⟨(3 : Int), ad, va, X1⟩ W = true by unfold rightB; simp only [show nmA ((3 : Int) : Int) = true from rfl, show nmV ((3 : Int) : Int) = true from rfl, show nmO ((3 : Int) : Int) = true from rfl] at HR0 ⊢; simp at HR0 ⊢ <;> omega)
          have RB := Lib.hid (show rightB ⟨(3 : Int), ad, X2, ol⟩ W = true by unfold rightB; simp only [show nmA ((3 : Int) : Int) = true from rfl, show nmV ((3 : Int) : Int) = true from rfl, show nmO ((3 : Int) : Int) = true from rfl] at HR0 ⊢; simp at HR0 ⊢ <;> omega)
          have RC := Lib.hid (show rightB ⟨(3 : Int), W, va, ol⟩ W = false by unfold rightB; simp only [show nmA ((3 : Int) : Int) = true from rfl, show nmV ((3 : Int) : Int) = true from rfl, show nmO ((3 : Int) : Int) = true from rfl] at HR0 ⊢; simp at HR0 ⊢ <;> omega)
          have RD := Lib.hid (show rightB ⟨(3 : Int), (-1), va, ol⟩ W = false by unfold rightB; simp only [show nmA ((3 : Int) : Int) = true from rfl, show nmV ((3 : Int) : Int) = true from rfl, show nmO ((3 : Int) : Int) = true from rfl] at HR0 ⊢; simp at HR0 ⊢ <;> omega)
          have RE := Lib.hid (show rightB ⟨(3 : Int), ad, va, ol⟩ (ad + 1) = true by unfold rightB; simp only [show nmA ((3 : Int) : Int) = true from rfl, show nmV ((3 : Int) : Int) = true from rfl, show nmO ((3 : Int) : Int) = true from rfl] at HR0 ⊢; simp at HR0 ⊢ <;> omega)
          have RF := Lib.hid (show rightB ⟨(3 : Int), ad, va, ol⟩ ad = false by unfold rightB; simp only [show nmA ((3 : Int) : Int) = true from rfl, show nmV ((3 : Int) : Int) = true from rfl, show nmO ((3 : Int) : Int) = true from rfl] at HR0 ⊢; simp at HR0 ⊢ <;> omega)
          have hadb : 0 ≤ ad ∧ ad < 128 := by simp only [show nmA ((3 : Int) : Int) = true from rfl, show nmV ((3 : Int) : Int) = true from rfl, show nmO ((3 : Int) : Int) = true from rfl] at HR0; simp at HR0; omega
          have had1 := hadb.1
          have had2 := hadb.2
          clear hadb
          clear HR0 hX1 hX2 hvb hv0 hwb hof
          have HXK := Lib.hid (show ∀ z, Below V3.heap.size V3 z → z.heap[hO]? = some (.cells #[.int .i64 (3 : Int), .int .i64 ad, .int .u32 va, .int .u32 ol] 29 (0, 0)) from fun z hb => ((HA3.out.bel.trans (hb.mono HA3.out.bel.size)).block hO HO3.out).trans HX1.out)
          go_upto_region 6 with fail
          refine wp_region_lexA ⟨[], []⟩ (fun x => Below V3.heap.size V3 x) (by kernel_rfl) (by kernel_rfl) (Below.refl _ _).drew ?_
          intro S hto hof hne
          have a8_0 : ∀ z : Wd S, z.w.cell? ⟨g8, 0, none⟩ = some (.int .i64 (3 : Int)) := fun z => cell_of ((HA3.out.below (hto z)).b8) 0
          have a8_1 : ∀ z : Wd S, z.w.cell? ⟨g8, 1, none⟩ = some (.int .i64 ad) := fun z => cell_of ((HA3.out.below (hto z)).b8) 1
          have a8_2 : ∀ z : Wd S, z.w.cell? ⟨g8, 2, none⟩ = some (.int .u32 va) := fun z => cell_of ((HA3.out.below (hto z)).b8) 2
          have a8_3 : ∀ z : Wd S, z.w.cell? ⟨g8, 3, none⟩ = some (.int .u32 X1) := fun z => cell_of ((HA3.out.below (hto z)).b8) 3
          have a9_0 : ∀ z : Wd S, z.w.cell? ⟨g9, 0, none⟩ = some (.int .i64 (3 : Int)) := fun z => cell_of ((HA3.out.below (hto z)).b9) 0
          have a9_1 : ∀ z : Wd S, z.w.cell? ⟨g9, 1, none⟩ = some (.int .i64 ad) := fun z => cell_of ((HA3.out.below (hto z)).b9) 1
          have a9_2 : ∀ z : Wd S, z.w.cell? ⟨g9, 2, none⟩ = some (.int .u32 X2) := fun z => cell_of ((HA3.out.below (hto z)).b9) 2
          have a9_3 : ∀ z : Wd S, z.w.cell? ⟨g9, 3, none⟩ = some (.int .u32 ol) := fun z => cell_of ((HA3.out.below (hto z)).b9) 3
          have a10_0 : ∀ z : Wd S, z.w.cell? ⟨g10, 0, none⟩ = some (.int .i64 (3 : Int)) := fun z => cell_of ((HA3.out.below (hto z)).b10) 0
          have a10_1 : ∀ z : Wd S, z.w.cell? ⟨g10, 1, none⟩ = some (.int .i64 W) := fun z => cell_of ((HA3.out.below (hto z)).b10) 1
          have a10_2 : ∀ z : Wd S, z.w.cell? ⟨g10, 2, none⟩ = some (.int .u32 va) := fun z => cell_of ((HA3.out.below (hto z)).b10) 2
          have a10_3 : ∀ z : Wd S, z.w.cell? ⟨g10, 3, none⟩ = some (.int .u32 ol) := fun z => cell_of ((HA3.out.below (hto z)).b10) 3
          have o0 : ∀ z : Wd S, z.w.cell? ⟨hO, 0, none⟩ = some (.int .i64 (3 : Int)) := fun z => cell_of (HXK.out z.w (hto z)) 0
          have Hof := Lib.hid hof
          clear hto hof
          refine lexW_light 2 (by kernel_rfl) ?_
          simp only [List.take_succ_cons, List.take_zero, List.drop_succ_cons, List.drop_zero]
          repeat (first | go_big_quiet_skip | (go_big_quiet_want; go_big_quiet_op; go_big_quiet_on))
          refine wpQuiet_nil ?_
          refine lexW_heavy (by kernel_rfl) ?_
          go_wp2_with fail
          refine (right_c ⟨(3 : Int), ad, va, X1⟩ W _).mono ?_
          rintro ev u1 ⟨rfl, hb1⟩
          rw [RA.out]
          have HC1 := Lib.hid ((Below.refl V3.heap.size V3).drew.trans hb1)
          clear hb1
          go_wp2_with fail
          refine lexQ_more (Hof.out _ HC1.out) ?_
          refine lexW_light 7 (by kernel_rfl) ?_
          simp only [List.take_succ_cons, List.take_zero, List.drop_succ_cons, List.drop_zero]
          repeat (first | go_big_quiet_skip | (go_big_quiet_want; go_big_quiet_op; go_big_quiet_on))
          refine wpQuiet_nil ?_
          refine lexW_heavy (by kernel_rfl) ?_
          go_wp2_with fail
          refine (right_c ⟨(3 : Int), ad, X2, ol⟩ W _).mono ?_
          rintro ev u2 ⟨rfl, hb1⟩
          rw [RB.out]
          have HC2 := Lib.hid (HC1.out.trans (hb1.mono HC1.out.size))
          clear hb1
          go_wp2_with fail
          refine lexQ_more (Hof.out _ HC2.out) ?_
          refine lexW_light 13 (by kernel_rfl) ?_
          simp only [List.take_succ_cons, List.take_zero, List.drop_succ_cons, List.drop_zero]
          repeat (first | go_big_quiet_skip | (go_big_quiet_want; go_big_quiet_op; go_big_quiet_on))
          refine wpQuiet_nil ?_
          refine lexW_heavy (by kernel_rfl) ?_
          go_wp2_with fail
          refine (right_c ⟨(3 : Int), W, va, ol⟩ W _).mono ?_
          rintro ev u3 ⟨rfl, hb1⟩
          rw [RC.out]
          have HC3 := Lib.hid (HC2.out.trans (hb1.mono HC2.out.size))
          clear hb1
          go_wp2_with fail
          refine lexQ_more (Hof.out _ HC3.out) ?_
          refine lexW_light 1 (by kernel_rfl) ?_
          simp only [List.take_succ_cons, List.take_zero, List.drop_succ_cons, List.drop_zero]
          repeat (first | go_big_quiet_skip | (go_big_quiet_want; go_big_quiet_op; go_big_quiet_on))
          refine wpQuiet_nil ?_
          refine lexW_done ?_
          clear a8_0 a8_1 a8_2 a8_3 a9_0 a9_1 a9_2 a9_3 a10_0 a10_1 a10_2 a10_3 o0
          have HA4 := Lib.hid (HA3.out.below HC3.out)
          have HXU := Lib.hid (HXK.out u3 HC3.out)
          clear HC1 HC2 HC3 HXK HA3 Hof hne
          have k1 := cell_of HA4.out.b10 1
          have z1 := frozen_of HA4.out.b10 1
          simp only [List.getElem?_toArray, List.getElem?_cons_zero, List.getElem?_cons_succ] at k1
          have hl10 := (Array.getElem?_eq_some_iff.1 HA4.out.b10).1
          go_upto_region 9 with fail
          have hM5 : Mods (fun q => q = g10) u3 (u3.setCell ⟨g10, 1, none⟩ (.int .i64 (-1))) := (Mods.refl (fun q => q = g10) u3).setCell (p := ⟨g10, 1, none⟩) rfl _
          have HA5 := Lib.hid (HA4.out.turn10 hM5 (c := #[.int .i64 (3 : Int), .int .i64 (-1), .int .u32 va, .int .u32 ol]) ((heap_setCell_at (k := 1) HA4.out.b10 _).trans rfl))
          have HXW := Lib.hid ((hM5.block hO (Array.getElem?_eq_some_iff.1 HXU.out).1 (fun (h : hO = g10) => by have := HOL.out; omega)).trans HXU.out)
          generalize u3.setCell ⟨g10, 1, none⟩ (.int .i64 (-1)) = u4 at *
          clear k1 z1 hl10 hM5 HA4 HXU
          have c0 := cell_of HA5.out.b10 0
          have c1 := cell_of HA5.out.b10 1
          have c2 := cell_of HA5.out.b10 2
          have c3 := cell_of HA5.out.b10 3
          have q0 := cell_of HXW.out 0
          have q1 := cell_of HXW.out 1
          have q2 := cell_of HXW.out 2
          have q3 := cell_of HXW.out 3
          simp only [List.getElem?_toArray, List.getElem?_cons_zero, List.getElem?_cons_succ] at c0 c1 c2 c3 q0 q1 q2 q3
          have hlq := (Array.getElem?_eq_some_iff.1 HXW.out).1
          go_wp2_with fail
          refine (right_c ⟨(3 : Int), -1, va, ol⟩ W u4).mono ?_
          rintro ev u5 ⟨rfl, hb5⟩
          rw [RD.out]
          have HU5 := Lib.hid (HB1.out.trans ((HA5.out.bel.trans (hb5.mono HA5.out.bel.size)).mono HB1.out.size))
          have HX5 := Lib.hid ((hb5.block hO hlq).trans HXW.out)
          clear hb5 c0 c1 c2 c3 q0 q1 q2 q3 hlq HXW HA5
          have q0 := cell_of HX5.out 0
          have q1 := cell_of HX5.out 1
          have q2 := cell_of HX5.out 2
          have q3 := cell_of HX5.out 3
          simp only [List.getElem?_toArray, List.getElem?_cons_zero, List.getElem?_cons_succ] at q0 q1 q2 q3
          have hlq := (Array.getElem?_eq_some_iff.1 HX5.out).1
          go_wp2_with fail
          refine (right_c ⟨(3 : Int), ad, va, ol⟩ (ad + 1) u5).mono ?_
          rintro ev u6 ⟨rfl, hb6⟩
          rw [RE.out]
          have HU6 := Lib.hid (HU5.out.trans (hb6.mono HU5.out.size))
          have HX6 := Lib.hid ((hb6.block hO hlq).trans HX5.out)
          clear hb6 q0 q1 q2 q3 hlq HX5
          have q0 := cell_of HX6.out 0
          have q1 := cell_of HX6.out 1
          have q2 := cell_of HX6.out 2
          have q3 := cell_of HX6.out 3
          simp only [List.getElem?_toArray, List.getElem?_cons_zero, List.getElem?_cons_succ] at q0 q1 q2 q3
          have hlq := (Array.getElem?_eq_some_iff.1 HX6.out).1
          go_wp2_with fail
          refine (right_c ⟨(3 : Int), ad, va, ol⟩ ad u6).mono ?_
          rintro ev u7 ⟨rfl, hb7⟩
          rw [RF.out]
          have HU7 := Lib.hid (HU6.out.trans (hb7.mono HU6.out.size))
          clear hb7 q0 q1 q2 q3 hlq HX6
          go_wp2_with fail
          refine (progRuns A _ (HS.out.below HU7.out)).mono ?_
          rintro ev wz ⟨rfl, hbz⟩
          go_wp2_with fail
          go_ret
          exact ⟨rfl, HU7.out.trans (hbz.mono HU7.out.size)⟩
        · simp only at h
          subst h
          have HR0 := HR.out
          unfold rightB at HR0
          have hX1 := HX1'.out
          have hX2 := HX2.out
          have hvb := HVB.out
          have hv0 := HV0.out
          have hwb := HWB.out
          have hof := HOF.out
          unfold OpV.fit at hof
          simp only at hof
          have RA := Lib.hid (show rightB ⟨(4 : Int), ad, va, X1⟩ W = false by unfold rightB; simp only [show nmA ((4 : Int) : Int) = false from rfl, show nmV ((4 : Int) : Int) = false from rfl, show nmO ((4 : Int) : Int) = false from rfl] at HR0 ⊢; simp at HR0 ⊢ <;> omega)
          have RB := Lib.hid (show rightB ⟨(4 : Int), ad, X2, ol⟩ W = false by unfold rightB; simp only [show nmA ((4 : Int) : Int) = false from rfl, show nmV ((4 : Int) : Int) = false from rfl, show nmO ((4 : Int) : Int) = false from rfl] at HR0 ⊢; simp at HR0 ⊢ <;> omega)
          have RC := Lib.hid (show rightB ⟨(4 : Int), W, va, ol⟩ W = false by unfold rightB; simp only [show nmA ((4 : Int) : Int) = false from rfl, show nmV ((4 : Int) : Int) = false from rfl, show nmO ((4 : Int) : Int) = false from rfl] at HR0 ⊢; simp at HR0 ⊢ <;> omega)
          have RD := Lib.hid (show rightB ⟨(4 : Int), (-1), va, ol⟩ W = false by unfold rightB; simp only [show nmA ((4 : Int) : Int) = false from rfl, show nmV ((4 : Int) : Int) = false from rfl, show nmO ((4 : Int) : Int) = false from rfl] at HR0 ⊢; simp at HR0 ⊢ <;> omega)
          clear HR0 hX1 hX2 hvb hv0 hwb hof
          have HXK := Lib.hid (show ∀ z, Below V3.heap.size V3 z → z.heap[hO]? = some (.cells #[.int .i64 (4 : Int), .int .i64 ad, .int .u32 va, .int .u32 ol] 29 (0, 0)) from fun z hb => ((HA3.out.bel.trans (hb.mono HA3.out.bel.size)).block hO HO3.out).trans HX1.out)
          go_upto_region 6 with fail
          refine wp_region_lexA ⟨[], []⟩ (fun x => Below V3.heap.size V3 x) (by kernel_rfl) (by kernel_rfl) (Below.refl _ _).drew ?_
          intro S hto hof hne
          have a8_0 : ∀ z : Wd S, z.w.cell? ⟨g8, 0, none⟩ = some (.int .i64 (4 : Int)) := fun z => cell_of ((HA3.out.below (hto z)).b8) 0
          have a8_1 : ∀ z : Wd S, z.w.cell? ⟨g8, 1, none⟩ = some (.int .i64 ad) := fun z => cell_of ((HA3.out.below (hto z)).b8) 1
          have a8_2 : ∀ z : Wd S, z.w.cell? ⟨g8, 2, none⟩ = some (.int .u32 va) := fun z => cell_of ((HA3.out.below (hto z)).b8) 2
          have a8_3 : ∀ z : Wd S, z.w.cell? ⟨g8, 3, none⟩ = some (.int .u32 X1) := fun z => cell_of ((HA3.out.below (hto z)).b8) 3
          have a9_0 : ∀ z : Wd S, z.w.cell? ⟨g9, 0, none⟩ = some (.int .i64 (4 : Int)) := fun z => cell_of ((HA3.out.below (hto z)).b9) 0
          have a9_1 : ∀ z : Wd S, z.w.cell? ⟨g9, 1, none⟩ = some (.int .i64 ad) := fun z => cell_of ((HA3.out.below (hto z)).b9) 1
          have a9_2 : ∀ z : Wd S, z.w.cell? ⟨g9, 2, none⟩ = some (.int .u32 X2) := fun z => cell_of ((HA3.out.below (hto z)).b9) 2
          have a9_3 : ∀ z : Wd S, z.w.cell? ⟨g9, 3, none⟩ = some (.int .u32 ol) := fun z => cell_of ((HA3.out.below (hto z)).b9) 3
          have a10_0 : ∀ z : Wd S, z.w.cell? ⟨g10, 0, none⟩ = some (.int .i64 (4 : Int)) := fun z => cell_of ((HA3.out.below (hto z)).b10) 0
          have a10_1 : ∀ z : Wd S, z.w.cell? ⟨g10, 1, none⟩ = some (.int .i64 W) := fun z => cell_of ((HA3.out.below (hto z)).b10) 1
          have a10_2 : ∀ z : Wd S, z.w.cell? ⟨g10, 2, none⟩ = some (.int .u32 va) := fun z => cell_of ((HA3.out.below (hto z)).b10) 2
          have a10_3 : ∀ z : Wd S, z.w.cell? ⟨g10, 3, none⟩ = some (.int .u32 ol) := fun z => cell_of ((HA3.out.below (hto z)).b10) 3
          have o0 : ∀ z : Wd S, z.w.cell? ⟨hO, 0, none⟩ = some (.int .i64 (4 : Int)) := fun z => cell_of (HXK.out z.w (hto z)) 0
          have Hof := Lib.hid hof
          clear hto hof
          refine lexW_light 2 (by kernel_rfl) ?_
          simp only [List.take_succ_cons, List.take_zero, List.drop_succ_cons, List.drop_zero]
          repeat (first | go_big_quiet_skip | (go_big_quiet_want; go_big_quiet_op; go_big_quiet_on))
          refine wpQuiet_nil ?_
          refine lexW_heavy (by kernel_rfl) ?_
          go_wp2_with fail
          refine (right_c ⟨(4 : Int), ad, va, X1⟩ W _).mono ?_
          rintro ev u1 ⟨rfl, hb1⟩
          rw [RA.out]
          have HC1 := Lib.hid ((Below.refl V3.heap.size V3).drew.trans hb1)
          clear hb1
          go_wp2_with fail
          refine lexQ_more (Hof.out _ HC1.out) ?_
          refine lexW_light 7 (by kernel_rfl) ?_
          simp only [List.take_succ_cons, List.take_zero, List.drop_succ_cons, List.drop_zero]
          repeat (first | go_big_quiet_skip | (go_big_quiet_want; go_big_quiet_op; go_big_quiet_on))
          refine wpQuiet_nil ?_
          refine lexW_heavy (by kernel_rfl) ?_
          go_wp2_with fail
          refine (right_c ⟨(4 : Int), ad, X2, ol⟩ W _).mono ?_
          rintro ev u2 ⟨rfl, hb1⟩
          rw [RB.out]
          have HC2 := Lib.hid (HC1.out.trans (hb1.mono HC1.out.size))
          clear hb1
          go_wp2_with fail
          refine lexQ_more (Hof.out _ HC2.out) ?_
          refine lexW_light 13 (by kernel_rfl) ?_
          simp only [List.take_succ_cons, List.take_zero, List.drop_succ_cons, List.drop_zero]
          repeat (first | go_big_quiet_skip | (go_big_quiet_want; go_big_quiet_op; go_big_quiet_on))
          refine wpQuiet_nil ?_
          refine lexW_heavy (by kernel_rfl) ?_
          go_wp2_with fail
          refine (right_c ⟨(4 : Int), W, va, ol⟩ W _).mono ?_
          rintro ev u3 ⟨rfl, hb1⟩
          rw [RC.out]
          have HC3 := Lib.hid (HC2.out.trans (hb1.mono HC2.out.size))
          clear hb1
          go_wp2_with fail
          refine lexQ_more (Hof.out _ HC3.out) ?_
          refine lexW_light 1 (by kernel_rfl) ?_
          simp only [List.take_succ_cons, List.take_zero, List.drop_succ_cons, List.drop_zero]
          repeat (first | go_big_quiet_skip | (go_big_quiet_want; go_big_quiet_op; go_big_quiet_on))
          refine wpQuiet_nil ?_
          refine lexW_done ?_
          clear a8_0 a8_1 a8_2 a8_3 a9_0 a9_1 a9_2 a9_3 a10_0 a10_1 a10_2 a10_3 o0
          have HA4 := Lib.hid (HA3.out.below HC3.out)
          have HXU := Lib.hid (HXK.out u3 HC3.out)
          clear HC1 HC2 HC3 HXK HA3 Hof hne
          have k1 := cell_of HA4.out.b10 1
          have z1 := frozen_of HA4.out.b10 1
          simp only [List.getElem?_toArray, List.getElem?_cons_zero, List.getElem?_cons_succ] at k1
          have hl10 := (Array.getElem?_eq_some_iff.1 HA4.out.b10).1
          go_upto_region 9 with fail
          have hM5 : Mods (fun q => q = g10) u3 (u3.setCell ⟨g10, 1, none⟩ (.int .i64 (-1))) := (Mods.refl (fun q => q = g10) u3).setCell (p := ⟨g10, 1, none⟩) rfl _
          have HA5 := Lib.hid (HA4.out.turn10 hM5 (c := #[.int .i64 (4 : Int), .int .i64 (-1), .int .u32 va, .int .u32 ol]) ((heap_setCell_at (k := 1) HA4.out.b10 _).trans rfl))
          have HXW := Lib.hid ((hM5.block hO (Array.getElem?_eq_some_iff.1 HXU.out).1 (fun (h : hO = g10) => by have := HOL.out; omega)).trans HXU.out)
          generalize u3.setCell ⟨g10, 1, none⟩ (.int .i64 (-1)) = u4 at *
          clear k1 z1 hl10 hM5 HA4 HXU
          have c0 := cell_of HA5.out.b10 0
          have c1 := cell_of HA5.out.b10 1
          have c2 := cell_of HA5.out.b10 2
          have c3 := cell_of HA5.out.b10 3
          have q0 := cell_of HXW.out 0
          have q1 := cell_of HXW.out 1
          have q2 := cell_of HXW.out 2
          have q3 := cell_of HXW.out 3
          simp only [List.getElem?_toArray, List.getElem?_cons_zero, List.getElem?_cons_succ] at c0 c1 c2 c3 q0 q1 q2 q3
          have hlq := (Array.getElem?_eq_some_iff.1 HXW.out).1
          go_wp2_with fail
          refine (right_c ⟨(4 : Int), -1, va, ol⟩ W u4).mono ?_
          rintro ev u5 ⟨rfl, hb5⟩
          rw [RD.out]
          have HU5 := Lib.hid (HB1.out.trans ((HA5.out.bel.trans (hb5.mono HA5.out.bel.size)).mono HB1.out.size))
          have HX5 := Lib.hid ((hb5.block hO hlq).trans HXW.out)
          clear hb5 c0 c1 c2 c3 q0 q1 q2 q3 hlq HXW HA5
          have q0 := cell_of HX5.out 0
          have q1 := cell_of HX5.out 1
          have q2 := cell_of HX5.out 2
          have q3 := cell_of HX5.out 3
          simp only [List.getElem?_toArray, List.getElem?_cons_zero, List.getElem?_cons_succ] at q0 q1 q2 q3
          have hlq := (Array.getElem?_eq_some_iff.1 HX5.out).1
          go_wp2_with fail
          refine (progRuns A _ (HS.out.below HU5.out)).mono ?_
          rintro ev wz ⟨rfl, hbz⟩
          go_wp2_with fail
          go_ret
          exact ⟨rfl, HU5.out.trans (hbz.mono HU5.out.size)⟩

end Go.Proofs.YtpljdbcifaeblaaDoor
