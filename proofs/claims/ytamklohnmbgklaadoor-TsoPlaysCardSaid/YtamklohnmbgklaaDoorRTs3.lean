/- The document's memory model: a store; Step whole. -/
import Derived.Test.YtamklohnmbgklaaDoorRTs2
import Derived.Test.YtamklohnmbgklaaDoorWin2
import Derived.Test.YtamklohnmbgklaaDoorCpy
namespace Go.Proofs.YtamklohnmbgklaaDoor
open Go.RowKit Go.Extern.Stop Go.Stop Go.Extern

set_option maxRecDepth 100000 in
set_option maxHeartbeats 16000000 in
theorem rstore_ok (lo b : Nat) (vB vM : Value) (vs : List Value) (B : Bufs) (M : List Int) (k j : Nat) (L : List (Int × Int)) (va ne : Int) (dn : Bool) (w : World) (h : MdAt tyR w lo b vB vM vs B M) (hk : k < B.length) (hj : j < M.length) (hL : B.getD k [] = L) (hlb : L.length ≤ 100000) :
    Calls Tryd.prog 21 #[.pointer (some ⟨b, 0, none⟩), .agg #[.int .i64 2, .int .i64 (k : Int), .int .i64 (j : Int), .int .u32 va, .int .u32 ne, .bool dn]] w fun ev w' => ev = .returned (.int .i64 0) ∧ StepP tyR w w' lo b vB vM vs (B.set k (L ++ [((j : Int), va)])) M := by
  have g1 : decide ((k : Int) < 0) = false := by simp
  have g2 : decide ((k : Int) ≥ (B.length : Int)) = false := by simp; omega
  have g3 : decide (B.length ≤ k) = false := by simp; omega
  have g7 : decide ((j : Int) < 0) = false := by simp
  have g8 : decide ((j : Int) ≥ (M.length : Int)) = false := by simp; omega
  have g9 : decide (M.length ≤ j) = false := by simp; omega
  have HLB := Lib.hid hlb
  clear hlb
  obtain ⟨gB, oB, kB, sd, cp, rfl, hvk, e0, z0, hrow⟩ := h.buf hk
  rw [hL] at hvk e0 hrow
  obtain ⟨gM, oM, kM, rfl, e3, z3⟩ := h.mem hj
  have hX := heap_alloc_new w (.cells #[.int .i64 2, .int .i64 (k : Int), .int .i64 (j : Int), .int .u32 va, .int .u32 ne, .bool dn] 24)
  have hb0 : Below w.heap.size w (w.alloc (.cells #[.int .i64 2, .int .i64 (k : Int), .int .i64 (j : Int), .int .u32 va, .int .u32 ne, .bool dn] 24)) := (Below.refl _ _).alloc (Nat.le_refl _) _
  have HB0 := Lib.hid hb0
  have hh := h.below hb0
  have hbl := (hh.lt b (.inl rfl)).2
  obtain ⟨hE, hhE⟩ : ∃ hE, hE = w.heap.size := ⟨_, rfl⟩
  rw [← hhE] at hX
  generalize hW0 : w.alloc (.cells #[.int .i64 2, .int .i64 (k : Int), .int .i64 (j : Int), .int .u32 va, .int .u32 ne, .bool dn] 24) = W0 at *
  have HW0 := Lib.hid hW0
  have HHE := Lib.hid hhE
  have hxl := (Array.getElem?_eq_some_iff.1 hX).1
  have X0 := Lib.hid (show ∀ W, Below W0.heap.size W0 W → W.cell? ⟨hE, 0, none⟩ = some (.int .i64 2) from fun W hb => (hb.cell (p := ⟨hE, 0, none⟩) hxl).trans (cell_of hX 0))
  have X1 := Lib.hid (show ∀ W, Below W0.heap.size W0 W → W.cell? ⟨hE, 1, none⟩ = some (.int .i64 (k : Int)) from fun W hb => (hb.cell (p := ⟨hE, 1, none⟩) hxl).trans (cell_of hX 1))
  have X2 := Lib.hid (show ∀ W, Below W0.heap.size W0 W → W.cell? ⟨hE, 2, none⟩ = some (.int .i64 (j : Int)) from fun W hb => (hb.cell (p := ⟨hE, 2, none⟩) hxl).trans (cell_of hX 2))
  have X3 := Lib.hid (show ∀ W, Below W0.heap.size W0 W → W.cell? ⟨hE, 3, none⟩ = some (.int .u32 va) from fun W hb => (hb.cell (p := ⟨hE, 3, none⟩) hxl).trans (cell_of hX 3))
  have X4 := Lib.hid (show ∀ W, Below W0.heap.size W0 W → W.cell? ⟨hE, 4, none⟩ = some (.int .u32 ne) from fun W hb => (hb.cell (p := ⟨hE, 4, none⟩) hxl).trans (cell_of hX 4))
  have X5 := Lib.hid (show ∀ W, Below W0.heap.size W0 W → W.cell? ⟨hE, 5, none⟩ = some (.bool dn) from fun W hb => (hb.cell (p := ⟨hE, 5, none⟩) hxl).trans (cell_of hX 5))
  have C0 := Lib.hid (show ∀ W, Below W0.heap.size W0 W → W.cell? ⟨b, 0, none⟩ = some (.slice (some ⟨gB, oB, none⟩) B.length kB) from fun W hb => (hb.cell (p := ⟨b, 0, none⟩) hbl).trans (cell_of hh.blk 0))
  have C1 := Lib.hid (show ∀ W, Below W0.heap.size W0 W → W.cell? ⟨b, 1, none⟩ = some (.slice (some ⟨gM, oM, none⟩) M.length kM) from fun W hb => (hb.cell (p := ⟨b, 1, none⟩) hbl).trans (cell_of hh.blk 1))
  have hgB := (h.lt gB (.inr (.inl rfl))).2
  have E0 := Lib.hid (show ∀ W, Below W0.heap.size W0 W → W.cell? ⟨gB, oB + k, none⟩ = some (.slice sd (L).length cp) from fun W hb => (hb.cell (p := ⟨gB, oB + k, none⟩) (Nat.lt_of_lt_of_le hgB HB0.out.size)).trans ((HB0.out.cell (p := ⟨gB, oB + k, none⟩) hgB).trans e0))
  have Z0 := Lib.hid (show ∀ W, Below W0.heap.size W0 W → W.frozen? ⟨gB, oB + k, none⟩ = false from fun W hb => (World.frozen?_of_block (a := ⟨gB, oB + k, none⟩) ((hb.block gB (Nat.lt_of_lt_of_le hgB HB0.out.size)).trans (HB0.out.block gB hgB))).trans z0)
  have ROW := Lib.hid (show ∀ W, Below W0.heap.size W0 W → winRow W lo 87 2 (.slice sd (L).length cp) (L).length (flatW (L)) from fun W hb => (hrow.below HB0.out).below hb)
  have HVK := Lib.hid hvk
  have HGB := Lib.hid hgB
  have hkl : (k : Int) < B.length := by omega
  have HKK := Lib.hid hk
  clear e0 z0 hrow hvk hk hgB
  have hgM := (h.lt gM (.inr (.inr (.inl rfl)))).2
  have E3 := Lib.hid (show ∀ W, Below W0.heap.size W0 W → W.cell? ⟨gM, oM + j, none⟩ = some (.int .u32 (M.getD j 0)) from fun W hb => (hb.cell (p := ⟨gM, oM + j, none⟩) (Nat.lt_of_lt_of_le hgM HB0.out.size)).trans ((HB0.out.cell (p := ⟨gM, oM + j, none⟩) hgM).trans e3))
  have Z3 := Lib.hid (show ∀ W, Below W0.heap.size W0 W → W.frozen? ⟨gM, oM + j, none⟩ = false from fun W hb => (World.frozen?_of_block (a := ⟨gM, oM + j, none⟩) ((hb.block gM (Nat.lt_of_lt_of_le hgM HB0.out.size)).trans (HB0.out.block gM hgM))).trans z3)
  have HGM := Lib.hid hgM
  have hjl : (j : Int) < M.length := by omega
  have HJJ := Lib.hid hj
  clear e3 z3 hj hgM
  have HH := Lib.hid hh
  have HIN := Lib.hid h
  have HB := Lib.hid (Below.refl W0.heap.size W0)
  clear hX hb0 hh hbl hxl h hW0 hhE
  go_enter Tryd.func21, Tryd.ntmps21
  go_wp2_with fail
  rw [← HHE.out, HW0.out]
  refine wp_region_lexA ⟨[], []⟩ (fun x => Below W0.heap.size W0 x) (by kernel_rfl) (by kernel_rfl) (Below.refl _ _).drew ?_
  intro S hto hof hne
  have yX0 : ∀ z : Wd S, z.w.cell? ⟨hE, 0, none⟩ = some (.int .i64 2) := fun z => X0.out z.w (HB.out.trans ((hto z).mono HB.out.size))
  have yX1 : ∀ z : Wd S, z.w.cell? ⟨hE, 1, none⟩ = some (.int .i64 (k : Int)) := fun z => X1.out z.w (HB.out.trans ((hto z).mono HB.out.size))
  have yC0 : ∀ z : Wd S, z.w.cell? ⟨b, 0, none⟩ = some (.slice (some ⟨gB, oB, none⟩) B.length kB) := fun z => C0.out z.w (HB.out.trans ((hto z).mono HB.out.size))
  have Hof := Lib.hid hof
  clear hto hof
  refine lexW_light 23 (by kernel_rfl) ?_
  simp only [List.take_succ_cons, List.take_zero, List.drop_succ_cons, List.drop_zero]
  repeat (first | go_big_quiet_skip | (go_big_quiet_want; go_big_quiet_op; go_big_quiet_on))
  refine wpQuiet_nil ?_
  refine lexW_done ?_
  clear yX0 yX1 yC0
  have HB := Lib.hid (HB.out.trans ((Below.refl W0.heap.size W0).drew.mono HB.out.size))
  generalize W0.drew = W1 at *
  go_wp2_with fail
  refine wp_region_lexA ⟨[], []⟩ (fun x => Below W1.heap.size W1 x) (by kernel_rfl) (by kernel_rfl) (Below.refl _ _).drew ?_
  intro S hto hof hne
  have yX0 : ∀ z : Wd S, z.w.cell? ⟨hE, 0, none⟩ = some (.int .i64 2) := fun z => X0.out z.w (HB.out.trans ((hto z).mono HB.out.size))
  have yX2 : ∀ z : Wd S, z.w.cell? ⟨hE, 2, none⟩ = some (.int .i64 (j : Int)) := fun z => X2.out z.w (HB.out.trans ((hto z).mono HB.out.size))
  have yC1 : ∀ z : Wd S, z.w.cell? ⟨b, 1, none⟩ = some (.slice (some ⟨gM, oM, none⟩) M.length kM) := fun z => C1.out z.w (HB.out.trans ((hto z).mono HB.out.size))
  have Hof := Lib.hid hof
  clear hto hof
  refine lexW_light 18 (by kernel_rfl) ?_
  simp only [List.take_succ_cons, List.take_zero, List.drop_succ_cons, List.drop_zero]
  repeat (first | go_big_quiet_skip | (go_big_quiet_want; go_big_quiet_op; go_big_quiet_on))
  refine wpQuiet_nil ?_
  refine lexW_done ?_
  clear yX0 yX2 yC1
  have HB := Lib.hid (HB.out.trans ((Below.refl W1.heap.size W1).drew.mono HB.out.size))
  generalize W1.drew = W2 at *
  go_wp2_with fail
  refine wp_region_lexA ⟨[], []⟩ (fun x => Below W2.heap.size W2 x) (by kernel_rfl) (by kernel_rfl) (Below.refl _ _).drew ?_
  intro S hto hof hne
  have yC0 : ∀ z : Wd S, z.w.cell? ⟨b, 0, none⟩ = some (.slice (some ⟨gB, oB, none⟩) B.length kB) := fun z => C0.out z.w (HB.out.trans ((hto z).mono HB.out.size))
  have yX1 : ∀ z : Wd S, z.w.cell? ⟨hE, 1, none⟩ = some (.int .i64 (k : Int)) := fun z => X1.out z.w (HB.out.trans ((hto z).mono HB.out.size))
  have yE0 : ∀ z : Wd S, z.w.cell? ⟨gB, oB + k, none⟩ = some (.slice sd (L).length cp) := fun z => E0.out z.w (HB.out.trans ((hto z).mono HB.out.size))
  have Hof := Lib.hid hof
  clear hto hof
  refine lexW_light 9 (by kernel_rfl) ?_
  simp only [List.take_succ_cons, List.take_zero, List.drop_succ_cons, List.drop_zero]
  repeat (first | go_big_quiet_skip | (go_big_quiet_want; go_big_quiet_op; go_big_quiet_on))
  refine wpQuiet_nil ?_
  refine lexW_done ?_
  clear yC0 yX1 yE0
  have HB := Lib.hid (HB.out.trans ((Below.refl W2.heap.size W2).drew.mono HB.out.size))
  generalize W2.drew = W3 at *
  have qX0 := X0.out _ HB.out
  go_wp2_with fail
  clear qX0
  obtain ⟨i0, hi0, hi1⟩ := Option.map_eq_some_iff.1 nInfoWR
  simp only [Prod.mk.injEq] at hi1
  obtain ⟨hz0, hz1, hz2⟩ := hi1
  have HI := Lib.hid hi0
  have HZ0 := Lib.hid hz0
  have HZ1 := Lib.hid hz1
  have HZ2 := Lib.hid hz2
  clear hi0 hz0 hz1 hz2
  generalize W3 = W at *
  have hbW := ((HH.out.below HB.out).lt b (.inl rfl)).2
  have hEW : hE < W.heap.size := World.block_lt_of_cell? _ _ (X2.out _ HB.out)
  have hnB := HIN.out.neBB (g := gB) rfl
  have hEB : hE ≠ gB := by have := HGB.out; have := HHE.out; omega
  have HWS := Lib.hid (Nat.le_trans HB0.out.size HB.out.size)
  have HLO := Lib.hid (Nat.le_trans HIN.out.lob (Nat.le_of_lt hbW))
  refine wp_region_lexG ⟨[], []⟩ [(6, 14), (8, 14)] 18 [0, 1, 2, 3, 4, 5, 7, 9, 10, 11, 12, 13, 6, 8, 14, 15, 16, 17] rfl rfl (fun x => Mods (fun q => q = gB) W x) (by kernel_rfl) (by kernel_rfl) (Mods.refl _ _).drew ?_
  intro S hto hof hne
  have yC0 : ∀ z : Wd S, z.w.cell? ⟨b, 0, none⟩ = some (.slice (some ⟨gB, oB, none⟩) B.length kB) := fun z => ((hto z).cell (p := ⟨b, 0, none⟩) hbW (fun e => hnB.1 e.symm)).trans (C0.out _ HB.out)
  have yX1 : ∀ z : Wd S, z.w.cell? ⟨hE, 1, none⟩ = some (.int .i64 (k : Int)) := fun z => ((hto z).cell (p := ⟨hE, 1, none⟩) hEW hEB).trans (X1.out _ HB.out)
  have yX2 : ∀ z : Wd S, z.w.cell? ⟨hE, 2, none⟩ = some (.int .i64 (j : Int)) := fun z => ((hto z).cell (p := ⟨hE, 2, none⟩) hEW hEB).trans (X2.out _ HB.out)
  have yX3 : ∀ z : Wd S, z.w.cell? ⟨hE, 3, none⟩ = some (.int .u32 va) := fun z => ((hto z).cell (p := ⟨hE, 3, none⟩) hEW hEB).trans (X3.out _ HB.out)
  have Hof := Lib.hid hof
  clear hto hof
  refine lexG_lights 12 (by kernel_rfl) (by kernel_rfl) ?_
  simp only [opsAt, List.take_succ_cons, List.take_zero, List.drop_succ_cons, List.drop_zero, List.filterMap_cons, List.filterMap_nil, List.getElem?_toArray, List.getElem?_cons_succ, List.getElem?_cons_zero]
  change wpQuiet _ _ _ _ (_ :: _ :: _ :: _ :: _ :: _ :: _ :: _ :: _ :: _ :: _ :: _ :: []) _
  repeat (first | go_big_quiet_skip | (go_big_quiet_want; go_big_quiet_op; go_big_quiet_on))
  refine wpQuiet_nil ?_
  clear yC0 yX1 yX2 yX3 hbW hEW hnB hEB
  have HSL := Lib.hid (ROW.out _ HB.out).slc
  have HB1z := Lib.hid (show Below W.heap.size W W.drew from (Below.refl _ _).drew)
  generalize W.drew = W1z at *
  refine lexG_two (k := 6) (m := 14) (R := [6, 8, 15, 16, 17]) (by kernel_rfl) (by kernel_rfl) (by kernel_rfl) (by kernel_rfl) ?_ ?_
  · simp only [opsAt, List.filterMap_cons, List.filterMap_nil, List.getElem?_toArray, List.getElem?_cons_succ, List.getElem?_cons_zero]
    change wpList _ _ _ (_ :: []) _ _
    go_wp2_with fail
    obtain ⟨hA, hhA⟩ : ∃ h, h = W1z.heap.size := ⟨_, rfl⟩
    have hca : Below W1z.heap.size W1z (W1z.alloc (.cells #[] 87)) := (Below.refl _ _).alloc (Nat.le_refl _) _
    have hA1 : winRow (W1z.alloc (.cells #[] 87)) hA 87 2 (.slice (some ⟨hA, 0, none⟩) 0 0) 0 [] := by rw [hhA]; exact winRow_fresh _ _ _
    have HA := Lib.hid hA1
    have HAB := Lib.hid (show W.heap.size ≤ hA by rw [hhA]; exact HB1z.out.size)
    have HAS := Lib.hid (show hA = W1z.heap.size ∧ (W1z.alloc (.cells #[] 87)).heap.size = W1z.heap.size + 1 from ⟨hhA, by simp⟩)
    have HBA := Lib.hid (HB1z.out.trans (hca.mono HB1z.out.size))
    rw [← hhA]
    refine lexGQ_more (Hof.out _ (Mods.of_below HBA.out)) ?_
    generalize W1z.alloc (.cells #[] 87) = WA at *
    clear hca hA1 hhA
    refine lexG_two (k := 8) (m := 14) (R := [8, 15, 16, 17]) (by kernel_rfl) (by kernel_rfl) (by kernel_rfl) (by kernel_rfl) ?_ ?_
    · simp only [opsAt, List.filterMap_cons, List.filterMap_nil, List.getElem?_toArray, List.getElem?_cons_succ, List.getElem?_cons_zero]
      change wpList _ _ _ (_ :: []) _ _
      go_wp2_with (at_builtin; refine wpList_append_slc _ rfl _ _ 73 rfl W.heap.size 87 i0 _ 2 16 Tryd.underlying73 HI.out HZ0.out HZ1.out HZ2.out rfl (by decide) _ 0 _ rfl (HA.out.base_le fun q hq => by have := (HA.out.lt q hq).1; have := HAB.out; omega) _ L.length (flatW L) rfl (HSL.out.below HBA.out) (flatW_one _) (by have := HLB.out; unfold maxLen; omega) (by have := HLB.out; omega) HBA.out.size ?_; intro p6 x6 hown hgrow hat; refine halt ?_)
      have HP := Lib.hid (show winRow x6 W.heap.size 87 2 p6 L.length (flatW L) by simpa using hown)
      have HBB := Lib.hid (HBA.out.grown hgrow HBA.out.size fun q hq => by have := (HA.out.lt q hq).1; have := HAB.out; omega)
      clear hown hgrow hat
      unfold Halt
      refine lexGQ_more (Hof.out _ (Mods.of_below HBB.out)) ?_
      generalize x6 = WB at *
      generalize p6 = pB at *
      refine lexG_one (by kernel_rfl) (by kernel_rfl) ?_
      simp only [opsAt, List.filterMap_cons, List.filterMap_nil, List.getElem?_toArray, List.getElem?_cons_succ, List.getElem?_cons_zero]
      change wpList _ _ _ (_ :: []) _ _
      go_wp2_with fail
      obtain ⟨hC, hhC⟩ : ∃ h, h = WB.heap.size := ⟨_, rfl⟩
      have hcc : Below WB.heap.size WB (WB.alloc (.cells (flatW [((j : Int), va)]).toArray 87)) := (Below.refl _ _).alloc (Nat.le_refl _) _
      have hC1 : slc (WB.alloc (.cells (flatW [((j : Int), va)]).toArray 87)) 2 (.slice (some ⟨hC, 0, none⟩) 1 1) 1 (flatW [((j : Int), va)]) := by rw [hhC]; exact slc_built _ _ 2 1 _ rfl
      have HC := Lib.hid hC1
      have HCS := Lib.hid (show hC = WB.heap.size ∧ (WB.alloc (.cells (flatW [((j : Int), va)]).toArray 87)).heap.size = WB.heap.size + 1 from ⟨hhC, by simp⟩)
      have HBC := Lib.hid (HBB.out.trans (hcc.mono HBB.out.size))
      have HP := Lib.hid (HP.out.below hcc)
      rw [← hhC]
      refine lexGQ_more (Hof.out _ (Mods.of_below HBC.out)) ?_
      change lexG _ _ _ _ _ _ _ _ _ (WB.alloc (.cells (flatW [((j : Int), va)]).toArray 87))
      generalize WB.alloc (.cells (flatW [((j : Int), va)]).toArray 87) = WC at *
      clear hcc hC1 hhC
      refine lexG_one (by kernel_rfl) (by kernel_rfl) ?_
      simp only [opsAt, List.filterMap_cons, List.filterMap_nil, List.getElem?_toArray, List.getElem?_cons_succ, List.getElem?_cons_zero]
      change wpList _ _ _ (_ :: []) _ _
      go_wp2_with (at_builtin; refine wpList_append_slc _ rfl _ _ 73 rfl W.heap.size 87 i0 _ 2 16 Tryd.underlying73 HI.out HZ0.out HZ1.out HZ2.out rfl (by decide) _ L.length _ rfl (HP.out) _ 1 (flatW [((j : Int), va)]) rfl HC.out (flatW_one _) (by have := HLB.out; unfold maxLen; omega) (by have := HLB.out; omega) HBC.out.size ?_; intro p6 x6 hown hgrow hat; refine halt ?_)
      have HBD := Lib.hid (HBC.out.grown hgrow HBC.out.size fun q hq => (HP.out.lt q hq).1)
      have HR := Lib.hid (show winRow x6 W.heap.size 87 2 p6 (L ++ [((j : Int), va)]).length (flatW (L ++ [((j : Int), va)])) by rw [flatW_append, List.length_append]; exact hown)
      obtain ⟨ad6, cp6, rfl⟩ := hown.len
      clear hown hgrow hat HC HP
      unfold Halt
      refine lexGQ_more (Hof.out _ (Mods.of_below HBD.out)) ?_
      generalize x6 = WD at *
      have HBF := Lib.hid (HB.out.trans (HBD.out.mono HB.out.size))
      have z1 := E0.out _ HBF.out
      have z2 := Z0.out _ HBF.out
      have hgV : gB < WD.heap.size := Nat.lt_of_lt_of_le HGB.out (Nat.le_trans HB0.out.size HBF.out.size)
      refine lexG_lights 1 (by kernel_rfl) (by kernel_rfl) ?_
      simp only [opsAt, List.take_succ_cons, List.take_zero, List.drop_succ_cons, List.drop_zero, List.filterMap_cons, List.filterMap_nil, List.getElem?_toArray, List.getElem?_cons_succ, List.getElem?_cons_zero]
      change wpQuiet _ _ _ _ (_ :: []) _
      repeat (first | go_big_quiet_skip | (go_big_quiet_want; go_big_quiet_op; go_big_quiet_on))
      refine wpQuiet_nil ?_
      refine lexG_one (by kernel_rfl) (by kernel_rfl) ?_
      simp only [opsAt, List.filterMap_cons, List.filterMap_nil, List.getElem?_toArray, List.getElem?_cons_succ, List.getElem?_cons_zero]
      change wpList _ _ _ (_ :: []) _ _
      go_wp2_with fail
      have hMS := (Mods.refl (fun q => q = gB) WD).setCell (p := ⟨gB, oB + k, none⟩) (show gB = gB from rfl) (.slice ad6 (L.length + 1) cp6)
      refine lexGQ_more (Hof.out _ ((Mods.of_below HBD.out).trans hMS fun _ _ hh => hh)) ?_
      refine lexG_done ?_
      have h2 := (HH.out.below HB.out).setBuf rfl HKK.out HVK.out (Mods.of_below HBD.out) (HR.out.base_le fun q hq => Nat.le_trans HLO.out (HR.out.lt q hq).1) (fun q hq => .inr (HR.out.lt q hq).1)
      have HH2 := Lib.hid h2
      have hmm : Mods (mdS b (.slice (some ⟨gB, oB, none⟩) B.length kB) (.slice (some ⟨gM, oM, none⟩) M.length kM) vs) w (WD.setCell ⟨gB, oB + k, none⟩ (.slice ad6 (L.length + 1) cp6)) := Mods.setCell (Mods.of_below (HB0.out.trans (HBF.out.mono HB0.out.size))) (p := ⟨gB, oB + k, none⟩) (.inr (.inl rfl)) _
      have HMM := Lib.hid hmm
      clear hMS h2 hmm z1 z2 hgV
      go_wp2_with fail
      go_ret
      exact ⟨rfl, _, HH2.out, HMM.out, mdS_set HVK.out fun q hq => .inr (Nat.le_trans HWS.out (HR.out.lt q hq).1)⟩
    · simp only [opsAt, List.filterMap_cons, List.filterMap_nil, List.getElem?_toArray, List.getElem?_cons_succ, List.getElem?_cons_zero]
      change wpList _ _ _ (_ :: []) _ _
      go_wp2_with fail
      obtain ⟨hC, hhC⟩ : ∃ h, h = WA.heap.size := ⟨_, rfl⟩
      have hcc : Below WA.heap.size WA (WA.alloc (.cells (flatW [((j : Int), va)]).toArray 87)) := (Below.refl _ _).alloc (Nat.le_refl _) _
      have hC1 : slc (WA.alloc (.cells (flatW [((j : Int), va)]).toArray 87)) 2 (.slice (some ⟨hC, 0, none⟩) 1 1) 1 (flatW [((j : Int), va)]) := by rw [hhC]; exact slc_built _ _ 2 1 _ rfl
      have HC := Lib.hid hC1
      have HCS := Lib.hid (show hC = WA.heap.size ∧ (WA.alloc (.cells (flatW [((j : Int), va)]).toArray 87)).heap.size = WA.heap.size + 1 from ⟨hhC, by simp⟩)
      have HBC := Lib.hid (HBA.out.trans (hcc.mono HBA.out.size))
      have HA := Lib.hid (HA.out.below hcc)
      have HNE := Lib.hid (show hC ≠ hA by have := HCS.out; have := HAS.out; omega)
      rw [← hhC]
      refine lexGQ_more (Hof.out _ (Mods.of_below HBC.out)) ?_
      change lexG _ _ _ _ _ _ _ _ _ (WA.alloc (.cells (flatW [((j : Int), va)]).toArray 87))
      generalize WA.alloc (.cells (flatW [((j : Int), va)]).toArray 87) = WC at *
      clear hcc hC1 hhC
      refine lexG_one (by kernel_rfl) (by kernel_rfl) ?_
      simp only [opsAt, List.filterMap_cons, List.filterMap_nil, List.getElem?_toArray, List.getElem?_cons_succ, List.getElem?_cons_zero]
      change wpList _ _ _ (_ :: []) _ _
      go_wp2_with (at_builtin; refine wpList_append_slc _ rfl _ _ 73 rfl W.heap.size 87 i0 _ 2 16 Tryd.underlying73 HI.out HZ0.out HZ1.out HZ2.out rfl (by decide) _ 0 _ rfl (HA.out.base_le fun q hq => by have := (HA.out.lt q hq).1; have := HAB.out; omega) _ L.length (flatW L) rfl (HSL.out.below HBC.out) (flatW_one _) (by have := HLB.out; unfold maxLen; omega) (by have := HLB.out; omega) HBC.out.size ?_; intro p6 x6 hown hgrow hat; refine halt ?_)
      have HP := Lib.hid (show winRow x6 W.heap.size 87 2 p6 L.length (flatW L) by simpa using hown)
      have HBB := Lib.hid (HBC.out.grown hgrow HBC.out.size fun q hq => by have := (HA.out.lt q hq).1; have := HAB.out; omega)
      have HC := Lib.hid (HC.out.keep (S := fun q => some hA = some q) (Mods.grown hgrow fun q hq => hq) fun q hq e => HNE.out (by rw [Option.some.inj e]; exact (Option.some.inj hq)))
      clear hown hgrow hat
      unfold Halt
      refine lexGQ_more (Hof.out _ (Mods.of_below HBB.out)) ?_
      generalize x6 = WB at *
      generalize p6 = pB at *
      refine lexG_one (by kernel_rfl) (by kernel_rfl) ?_
      simp only [opsAt, List.filterMap_cons, List.filterMap_nil, List.getElem?_toArray, List.getElem?_cons_succ, List.getElem?_cons_zero]
      change wpList _ _ _ (_ :: []) _ _
      go_wp2_with (at_builtin; refine wpList_append_slc _ rfl _ _ 73 rfl W.heap.size 87 i0 _ 2 16 Tryd.underlying73 HI.out HZ0.out HZ1.out HZ2.out rfl (by decide) _ L.length _ rfl (HP.out) _ 1 (flatW [((j : Int), va)]) rfl HC.out (flatW_one _) (by have := HLB.out; unfold maxLen; omega) (by have := HLB.out; omega) HBB.out.size ?_; intro p6 x6 hown hgrow hat; refine halt ?_)
      have HBD := Lib.hid (HBB.out.grown hgrow HBB.out.size fun q hq => (HP.out.lt q hq).1)
      have HR := Lib.hid (show winRow x6 W.heap.size 87 2 p6 (L ++ [((j : Int), va)]).length (flatW (L ++ [((j : Int), va)])) by rw [flatW_append, List.length_append]; exact hown)
      obtain ⟨ad6, cp6, rfl⟩ := hown.len
      clear hown hgrow hat HC HP
      unfold Halt
      refine lexGQ_more (Hof.out _ (Mods.of_below HBD.out)) ?_
      generalize x6 = WD at *
      have HBF := Lib.hid (HB.out.trans (HBD.out.mono HB.out.size))
      have z1 := E0.out _ HBF.out
      have z2 := Z0.out _ HBF.out
      have hgV : gB < WD.heap.size := Nat.lt_of_lt_of_le HGB.out (Nat.le_trans HB0.out.size HBF.out.size)
      refine lexG_lights 1 (by kernel_rfl) (by kernel_rfl) ?_
      simp only [opsAt, List.take_succ_cons, List.take_zero, List.drop_succ_cons, List.drop_zero, List.filterMap_cons, List.filterMap_nil, List.getElem?_toArray, List.getElem?_cons_succ, List.getElem?_cons_zero]
      change wpQuiet _ _ _ _ (_ :: []) _
      repeat (first | go_big_quiet_skip | (go_big_quiet_want; go_big_quiet_op; go_big_quiet_on))
      refine wpQuiet_nil ?_
      refine lexG_one (by kernel_rfl) (by kernel_rfl) ?_
      simp only [opsAt, List.filterMap_cons, List.filterMap_nil, List.getElem?_toArray, List.getElem?_cons_succ, List.getElem?_cons_zero]
      change wpList _ _ _ (_ :: []) _ _
      go_wp2_with fail
      have hMS := (Mods.refl (fun q => q = gB) WD).setCell (p := ⟨gB, oB + k, none⟩) (show gB = gB from rfl) (.slice ad6 (L.length + 1) cp6)
      refine lexGQ_more (Hof.out _ ((Mods.of_below HBD.out).trans hMS fun _ _ hh => hh)) ?_
      refine lexG_done ?_
      have h2 := (HH.out.below HB.out).setBuf rfl HKK.out HVK.out (Mods.of_below HBD.out) (HR.out.base_le fun q hq => Nat.le_trans HLO.out (HR.out.lt q hq).1) (fun q hq => .inr (HR.out.lt q hq).1)
      have HH2 := Lib.hid h2
      have hmm : Mods (mdS b (.slice (some ⟨gB, oB, none⟩) B.length kB) (.slice (some ⟨gM, oM, none⟩) M.length kM) vs) w (WD.setCell ⟨gB, oB + k, none⟩ (.slice ad6 (L.length + 1) cp6)) := Mods.setCell (Mods.of_below (HB0.out.trans (HBF.out.mono HB0.out.size))) (p := ⟨gB, oB + k, none⟩) (.inr (.inl rfl)) _
      have HMM := Lib.hid hmm
      clear hMS h2 hmm z1 z2 hgV
      go_wp2_with fail
      go_ret
      exact ⟨rfl, _, HH2.out, HMM.out, mdS_set HVK.out fun q hq => .inr (Nat.le_trans HWS.out (HR.out.lt q hq).1)⟩
  · simp only [opsAt, List.filterMap_cons, List.filterMap_nil, List.getElem?_toArray, List.getElem?_cons_succ, List.getElem?_cons_zero]
    change wpList _ _ _ (_ :: []) _ _
    go_wp2_with fail
    obtain ⟨hC, hhC⟩ : ∃ h, h = W1z.heap.size := ⟨_, rfl⟩
    have hcc : Below W1z.heap.size W1z (W1z.alloc (.cells (flatW [((j : Int), va)]).toArray 87)) := (Below.refl _ _).alloc (Nat.le_refl _) _
    have hC1 : slc (W1z.alloc (.cells (flatW [((j : Int), va)]).toArray 87)) 2 (.slice (some ⟨hC, 0, none⟩) 1 1) 1 (flatW [((j : Int), va)]) := by rw [hhC]; exact slc_built _ _ 2 1 _ rfl
    have HC := Lib.hid hC1
    have HCS := Lib.hid (show hC = W1z.heap.size ∧ (W1z.alloc (.cells (flatW [((j : Int), va)]).toArray 87)).heap.size = W1z.heap.size + 1 from ⟨hhC, by simp⟩)
    have HBC := Lib.hid (HB1z.out.trans (hcc.mono HB1z.out.size))
    rw [← hhC]
    refine lexGQ_more (Hof.out _ (Mods.of_below HBC.out)) ?_
    change lexG _ _ _ _ _ _ _ _ _ (W1z.alloc (.cells (flatW [((j : Int), va)]).toArray 87))
    generalize W1z.alloc (.cells (flatW [((j : Int), va)]).toArray 87) = WC at *
    clear hcc hC1 hhC
    refine lexG_one (by kernel_rfl) (by kernel_rfl) ?_
    simp only [opsAt, List.filterMap_cons, List.filterMap_nil, List.getElem?_toArray, List.getElem?_cons_succ, List.getElem?_cons_zero]
    change wpList _ _ _ (_ :: []) _ _
    go_wp2_with fail
    obtain ⟨hA, hhA⟩ : ∃ h, h = WC.heap.size := ⟨_, rfl⟩
    have hca : Below WC.heap.size WC (WC.alloc (.cells #[] 87)) := (Below.refl _ _).alloc (Nat.le_refl _) _
    have hA1 : winRow (WC.alloc (.cells #[] 87)) hA 87 2 (.slice (some ⟨hA, 0, none⟩) 0 0) 0 [] := by rw [hhA]; exact winRow_fresh _ _ _
    have HA := Lib.hid hA1
    have HAB := Lib.hid (show W.heap.size ≤ hA by rw [hhA]; exact HBC.out.size)
    have HAS := Lib.hid (show hA = WC.heap.size ∧ (WC.alloc (.cells #[] 87)).heap.size = WC.heap.size + 1 from ⟨hhA, by simp⟩)
    have HBA := Lib.hid (HBC.out.trans (hca.mono HBC.out.size))
    have HC := Lib.hid (HC.out.below hca)
    have HNE := Lib.hid (show hC ≠ hA by have := HCS.out; have := HAS.out; omega)
    rw [← hhA]
    refine lexGQ_more (Hof.out _ (Mods.of_below HBA.out)) ?_
    generalize WC.alloc (.cells #[] 87) = WA at *
    clear hca hA1 hhA
    refine lexG_one (by kernel_rfl) (by kernel_rfl) ?_
    simp only [opsAt, List.filterMap_cons, List.filterMap_nil, List.getElem?_toArray, List.getElem?_cons_succ, List.getElem?_cons_zero]
    change wpList _ _ _ (_ :: []) _ _
    go_wp2_with (at_builtin; refine wpList_append_slc _ rfl _ _ 73 rfl W.heap.size 87 i0 _ 2 16 Tryd.underlying73 HI.out HZ0.out HZ1.out HZ2.out rfl (by decide) _ 0 _ rfl (HA.out.base_le fun q hq => by have := (HA.out.lt q hq).1; have := HAB.out; omega) _ L.length (flatW L) rfl (HSL.out.below HBA.out) (flatW_one _) (by have := HLB.out; unfold maxLen; omega) (by have := HLB.out; omega) HBA.out.size ?_; intro p6 x6 hown hgrow hat; refine halt ?_)
    have HP := Lib.hid (show winRow x6 W.heap.size 87 2 p6 L.length (flatW L) by simpa using hown)
    have HBB := Lib.hid (HBA.out.grown hgrow HBA.out.size fun q hq => by have := (HA.out.lt q hq).1; have := HAB.out; omega)
    have HC := Lib.hid (HC.out.keep (S := fun q => some hA = some q) (Mods.grown hgrow fun q hq => hq) fun q hq e => HNE.out (by rw [Option.some.inj e]; exact (Option.some.inj hq)))
    clear hown hgrow hat
    unfold Halt
    refine lexGQ_more (Hof.out _ (Mods.of_below HBB.out)) ?_
    generalize x6 = WB at *
    generalize p6 = pB at *
    refine lexG_one (by kernel_rfl) (by kernel_rfl) ?_
    simp only [opsAt, List.filterMap_cons, List.filterMap_nil, List.getElem?_toArray, List.getElem?_cons_succ, List.getElem?_cons_zero]
    change wpList _ _ _ (_ :: []) _ _
    go_wp2_with (at_builtin; refine wpList_append_slc _ rfl _ _ 73 rfl W.heap.size 87 i0 _ 2 16 Tryd.underlying73 HI.out HZ0.out HZ1.out HZ2.out rfl (by decide) _ L.length _ rfl (HP.out) _ 1 (flatW [((j : Int), va)]) rfl HC.out (flatW_one _) (by have := HLB.out; unfold maxLen; omega) (by have := HLB.out; omega) HBB.out.size ?_; intro p6 x6 hown hgrow hat; refine halt ?_)
    have HBD := Lib.hid (HBB.out.grown hgrow HBB.out.size fun q hq => (HP.out.lt q hq).1)
    have HR := Lib.hid (show winRow x6 W.heap.size 87 2 p6 (L ++ [((j : Int), va)]).length (flatW (L ++ [((j : Int), va)])) by rw [flatW_append, List.length_append]; exact hown)
    obtain ⟨ad6, cp6, rfl⟩ := hown.len
    clear hown hgrow hat HC HP
    unfold Halt
    refine lexGQ_more (Hof.out _ (Mods.of_below HBD.out)) ?_
    generalize x6 = WD at *
    have HBF := Lib.hid (HB.out.trans (HBD.out.mono HB.out.size))
    have z1 := E0.out _ HBF.out
    have z2 := Z0.out _ HBF.out
    have hgV : gB < WD.heap.size := Nat.lt_of_lt_of_le HGB.out (Nat.le_trans HB0.out.size HBF.out.size)
    refine lexG_lights 1 (by kernel_rfl) (by kernel_rfl) ?_
    simp only [opsAt, List.take_succ_cons, List.take_zero, List.drop_succ_cons, List.drop_zero, List.filterMap_cons, List.filterMap_nil, List.getElem?_toArray, List.getElem?_cons_succ, List.getElem?_cons_zero]
    change wpQuiet _ _ _ _ (_ :: []) _
    repeat (first | go_big_quiet_skip | (go_big_quiet_want; go_big_quiet_op; go_big_quiet_on))
    refine wpQuiet_nil ?_
    refine lexG_one (by kernel_rfl) (by kernel_rfl) ?_
    simp only [opsAt, List.filterMap_cons, List.filterMap_nil, List.getElem?_toArray, List.getElem?_cons_succ, List.getElem?_cons_zero]
    change wpList _ _ _ (_ :: []) _ _
    go_wp2_with fail
    have hMS := (Mods.refl (fun q => q = gB) WD).setCell (p := ⟨gB, oB + k, none⟩) (show gB = gB from rfl) (.slice ad6 (L.length + 1) cp6)
    refine lexGQ_more (Hof.out _ ((Mods.of_below HBD.out).trans hMS fun _ _ hh => hh)) ?_
    refine lexG_done ?_
    have h2 := (HH.out.below HB.out).setBuf rfl HKK.out HVK.out (Mods.of_below HBD.out) (HR.out.base_le fun q hq => Nat.le_trans HLO.out (HR.out.lt q hq).1) (fun q hq => .inr (HR.out.lt q hq).1)
    have HH2 := Lib.hid h2
    have hmm : Mods (mdS b (.slice (some ⟨gB, oB, none⟩) B.length kB) (.slice (some ⟨gM, oM, none⟩) M.length kM) vs) w (WD.setCell ⟨gB, oB + k, none⟩ (.slice ad6 (L.length + 1) cp6)) := Mods.setCell (Mods.of_below (HB0.out.trans (HBF.out.mono HB0.out.size))) (p := ⟨gB, oB + k, none⟩) (.inr (.inl rfl)) _
    have HMM := Lib.hid hmm
    clear hMS h2 hmm z1 z2 hgV
    go_wp2_with fail
    go_ret
    exact ⟨rfl, _, HH2.out, HMM.out, mdS_set HVK.out fun q hq => .inr (Nat.le_trans HWS.out (HR.out.lt q hq).1)⟩

end Go.Proofs.YtamklohnmbgklaaDoor
