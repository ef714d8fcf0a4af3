/- The document's memory model: an event that changes it. -/
import Derived.Test.YtamklohnmbgklaaDoorRTs1
import Derived.Test.YtamklohnmbgklaaDoorTs9
namespace Go.Proofs.YtamklohnmbgklaaDoor
open Go.RowKit Go.Extern.Stop Go.Stop Go.Extern

def Halt (p : Prop) : Prop := p
theorem halt {p : Prop} (h : Halt p) : p := h
/-- A window less its first element. -/
theorem winRow.tail2 {w : World} {base : Nat} {e : TypeId} {g off m cap : Nat} {x y : Value} {xs : List Value} (h : winRow w base e 2 (.slice (some ⟨g, off, none⟩) (m + 1) cap) (m + 1) (x :: y :: xs)) : winRow w base e 2 (.slice (some ⟨g, off + 2, none⟩) m (cap - 1)) m xs := by
  obtain ⟨h1, h2⟩ := h
  refine ⟨by simp only [List.length_cons] at h1; omega, ?_⟩
  rcases h2 with ⟨h2, _⟩ | ⟨g', off', cap', cur, hv, hb, hg, hn, hm, hs, hx⟩
  · cases h2
  · simp only [Value.slice.injEq, Option.some.injEq, Addr.mk.injEq] at hv
    obtain ⟨⟨rfl, rfl, _⟩, _, rfl⟩ := hv
    refine .inr ⟨g, off + 2, cap - 1, cur, rfl, hb, hg, by omega, by omega, by omega, ?_⟩
    have := congrArg (List.drop 2) hx
    rw [List.drop_take, List.drop_drop] at this
    simpa [show (m + 1) * 2 - 2 = m * 2 by omega] using this
theorem winRow.none2 {w : World} {base : Nat} {e : TypeId} {size g off n cap : Nat} {xs : List Value} (h : winRow w base e size (.slice (some ⟨g, off, none⟩) n cap) n xs) : winRow w base e size (.slice (some ⟨g, off, none⟩) 0 0) 0 [] := by
  rcases h.2 with ⟨h2, _⟩ | ⟨g', off', cap', cur, hv', hb, hg, hn, hm, hsz, hx⟩
  · cases h2
  · simp only [Value.slice.injEq, Option.some.injEq, Addr.mk.injEq] at hv'
    obtain ⟨⟨rfl, rfl, _⟩, _, rfl⟩ := hv'
    exact ⟨by simp, .inr ⟨g, off, 0, cur, rfl, hb, hg, Nat.le_refl _, Nat.zero_le _, by omega, by simp⟩⟩

set_option maxRecDepth 100000 in
set_option maxHeartbeats 16000000 in
theorem rcas_okd (lo b : Nat) (vB vM : Value) (vs : List Value) (B : Bufs) (M : List Int) (k j : Nat) (va ne : Int) (w : World) (h : MdAt tyR w lo b vB vM vs B M) (hk : k < B.length) (hj : j < M.length) (hL : B.getD k [] = ([] : List (Int × Int))) (hm : M.getD j 0 = va) :
    Calls Tryd.prog 21 #[.pointer (some ⟨b, 0, none⟩), .agg #[.int .i64 4, .int .i64 (k : Int), .int .i64 (j : Int), .int .u32 va, .int .u32 ne, .bool true]] w fun ev w' => ev = .returned (.int .i64 0) ∧ StepP tyR w w' lo b vB vM vs B (M.set j ne) := by
  have g1 : decide ((k : Int) < 0) = false := by simp
  have g2 : decide ((k : Int) ≥ (B.length : Int)) = false := by simp; omega
  have g3 : decide (B.length ≤ k) = false := by simp; omega
  have g7 : decide ((j : Int) < 0) = false := by simp
  have g8 : decide ((j : Int) ≥ (M.length : Int)) = false := by simp; omega
  have g9 : decide (M.length ≤ j) = false := by simp; omega
  have HM := Lib.hid hm
  have gx : (va != va) = false := by simp
  clear hm
  obtain ⟨gB, oB, kB, sd, cp, rfl, hvk, e0, z0, hrow⟩ := h.buf hk
  rw [hL] at hvk e0 hrow
  obtain ⟨gM, oM, kM, rfl, e3, z3⟩ := h.mem hj
  have hX := heap_alloc_new w (.cells #[.int .i64 4, .int .i64 (k : Int), .int .i64 (j : Int), .int .u32 va, .int .u32 ne, .bool true] 24)
  have hb0 : Below w.heap.size w (w.alloc (.cells #[.int .i64 4, .int .i64 (k : Int), .int .i64 (j : Int), .int .u32 va, .int .u32 ne, .bool true] 24)) := (Below.refl _ _).alloc (Nat.le_refl _) _
  have HB0 := Lib.hid hb0
  have hh := h.below hb0
  have hbl := (hh.lt b (.inl rfl)).2
  obtain ⟨hE, hhE⟩ : ∃ hE, hE = w.heap.size := ⟨_, rfl⟩
  rw [← hhE] at hX
  generalize hW0 : w.alloc (.cells #[.int .i64 4, .int .i64 (k : Int), .int .i64 (j : Int), .int .u32 va, .int .u32 ne, .bool true] 24) = W0 at *
  have HW0 := Lib.hid hW0
  have HHE := Lib.hid hhE
  have hxl := (Array.getElem?_eq_some_iff.1 hX).1
  have X0 := Lib.hid (show ∀ W, Below W0.heap.size W0 W → W.cell? ⟨hE, 0, none⟩ = some (.int .i64 4) from fun W hb => (hb.cell (p := ⟨hE, 0, none⟩) hxl).trans (cell_of hX 0))
  have X1 := Lib.hid (show ∀ W, Below W0.heap.size W0 W → W.cell? ⟨hE, 1, none⟩ = some (.int .i64 (k : Int)) from fun W hb => (hb.cell (p := ⟨hE, 1, none⟩) hxl).trans (cell_of hX 1))
  have X2 := Lib.hid (show ∀ W, Below W0.heap.size W0 W → W.cell? ⟨hE, 2, none⟩ = some (.int .i64 (j : Int)) from fun W hb => (hb.cell (p := ⟨hE, 2, none⟩) hxl).trans (cell_of hX 2))
  have X3 := Lib.hid (show ∀ W, Below W0.heap.size W0 W → W.cell? ⟨hE, 3, none⟩ = some (.int .u32 va) from fun W hb => (hb.cell (p := ⟨hE, 3, none⟩) hxl).trans (cell_of hX 3))
  have X4 := Lib.hid (show ∀ W, Below W0.heap.size W0 W → W.cell? ⟨hE, 4, none⟩ = some (.int .u32 ne) from fun W hb => (hb.cell (p := ⟨hE, 4, none⟩) hxl).trans (cell_of hX 4))
  have X5 := Lib.hid (show ∀ W, Below W0.heap.size W0 W → W.cell? ⟨hE, 5, none⟩ = some (.bool true) from fun W hb => (hb.cell (p := ⟨hE, 5, none⟩) hxl).trans (cell_of hX 5))
  have C0 := Lib.hid (show ∀ W, Below W0.heap.size W0 W → W.cell? ⟨b, 0, none⟩ = some (.slice (some ⟨gB, oB, none⟩) B.length kB) from fun W hb => (hb.cell (p := ⟨b, 0, none⟩) hbl).trans (cell_of hh.blk 0))
  have C1 := Lib.hid (show ∀ W, Below W0.heap.size W0 W → W.cell? ⟨b, 1, none⟩ = some (.slice (some ⟨gM, oM, none⟩) M.length kM) from fun W hb => (hb.cell (p := ⟨b, 1, none⟩) hbl).trans (cell_of hh.blk 1))
  have hgB := (h.lt gB (.inr (.inl rfl))).2
  have E0 := Lib.hid (show ∀ W, Below W0.heap.size W0 W → W.cell? ⟨gB, oB + k, none⟩ = some (.slice sd (([] : List (Int × Int))).length cp) from fun W hb => (hb.cell (p := ⟨gB, oB + k, none⟩) (Nat.lt_of_lt_of_le hgB HB0.out.size)).trans ((HB0.out.cell (p := ⟨gB, oB + k, none⟩) hgB).trans e0))
  have Z0 := Lib.hid (show ∀ W, Below W0.heap.size W0 W → W.frozen? ⟨gB, oB + k, none⟩ = false from fun W hb => (World.frozen?_of_block (a := ⟨gB, oB + k, none⟩) ((hb.block gB (Nat.lt_of_lt_of_le hgB HB0.out.size)).trans (HB0.out.block gB hgB))).trans z0)
  have ROW := Lib.hid (show ∀ W, Below W0.heap.size W0 W → winRow W lo 87 2 (.slice sd (([] : List (Int × Int))).length cp) (([] : List (Int × Int))).length (flatW (([] : List (Int × Int)))) from fun W hb => (hrow.below HB0.out).below hb)
  have HVK := Lib.hid hvk
  have HGB := Lib.hid hgB
  have hkl : (k : Int) < B.length := by omega
  have HKK := Lib.hid hk
  clear e0 z0 hrow hvk hk hgB
  have hgM := (h.lt gM (.inr (.inr (.inl rfl)))).2
  have E3 := Lib.hid (show ∀ W, Below W0.heap.size W0 W → W.cell? ⟨gM, oM + j, none⟩ = some (.int .u32 (M.getD j 0)) from fun W hb => (hb.cell (p := ⟨gM, oM + j, none⟩) (Nat.lt_of_lt_of_le hgM HB0.out.size)).trans ((HB0.out.cell (p := ⟨gM, oM + j, none⟩) hgM).trans e3))
  have Z3 := Lib.hid (show ∀ W, Below W0.heap.size W0 W → W.frozen? ⟨gM, oM + j, none⟩ = false from fun W hb => (World.frozen?_of_block (a := ⟨gM, oM + j, none⟩) ((hb.block gM (Nat.lt_of_lt_of_le hgM HB0.out.size)).trans (HB0.out.block gM hgM))).trans z3)
  have HGM := Lib.hid hgM
  have hjl : (j : Int) < M.length := by omega
  have HJJ := Lib.hid hj
  clear e3 z3 hj hgM
  have HH := Lib.hid hh
  have HIN := Lib.hid h
  have HB := Lib.hid (Below.refl W0.heap.size W0)
  clear hX hb0 hh hbl hxl h hW0 hhE
  go_enter Tryd.func21, Tryd.ntmps21
  go_wp2_with fail
  rw [← HHE.out, HW0.out]
  refine wp_region_lexA ⟨[], []⟩ (fun x => Below W0.heap.size W0 x) (by kernel_rfl) (by kernel_rfl) (Below.refl _ _).drew ?_
  intro S hto hof hne
  have yX0 : ∀ z : Wd S, z.w.cell? ⟨hE, 0, none⟩ = some (.int .i64 4) := fun z => X0.out z.w (HB.out.trans ((hto z).mono HB.out.size))
  have yX1 : ∀ z : Wd S, z.w.cell? ⟨hE, 1, none⟩ = some (.int .i64 (k : Int)) := fun z => X1.out z.w (HB.out.trans ((hto z).mono HB.out.size))
  have yC0 : ∀ z : Wd S, z.w.cell? ⟨b, 0, none⟩ = some (.slice (some ⟨gB, oB, none⟩) B.length kB) := fun z => C0.out z.w (HB.out.trans ((hto z).mono HB.out.size))
  have Hof := Lib.hid hof
  clear hto hof
  refine lexW_light 23 (by kernel_rfl) ?_
  simp only [List.take_succ_cons, List.take_zero, List.drop_succ_cons, List.drop_zero]
  repeat (first | go_big_quiet_skip | (go_big_quiet_want; go_big_quiet_op; go_big_quiet_on))
  refine wpQuiet_nil ?_
  refine lexW_done ?_
  clear yX0 yX1 yC0
  have HB := Lib.hid (HB.out.trans ((Below.refl W0.heap.size W0).drew.mono HB.out.size))
  generalize W0.drew = W1 at *
  go_wp2_with fail
  refine wp_region_lexA ⟨[], []⟩ (fun x => Below W1.heap.size W1 x) (by kernel_rfl) (by kernel_rfl) (Below.refl _ _).drew ?_
  intro S hto hof hne
  have yX0 : ∀ z : Wd S, z.w.cell? ⟨hE, 0, none⟩ = some (.int .i64 4) := fun z => X0.out z.w (HB.out.trans ((hto z).mono HB.out.size))
  have yX2 : ∀ z : Wd S, z.w.cell? ⟨hE, 2, none⟩ = some (.int .i64 (j : Int)) := fun z => X2.out z.w (HB.out.trans ((hto z).mono HB.out.size))
  have yC1 : ∀ z : Wd S, z.w.cell? ⟨b, 1, none⟩ = some (.slice (some ⟨gM, oM, none⟩) M.length kM) := fun z => C1.out z.w (HB.out.trans ((hto z).mono HB.out.size))
  have Hof := Lib.hid hof
  clear hto hof
  refine lexW_light 18 (by kernel_rfl) ?_
  simp only [List.take_succ_cons, List.take_zero, List.drop_succ_cons, List.drop_zero]
  repeat (first | go_big_quiet_skip | (go_big_quiet_want; go_big_quiet_op; go_big_quiet_on))
  refine wpQuiet_nil ?_
  refine lexW_done ?_
  clear yX0 yX2 yC1
  have HB := Lib.hid (HB.out.trans ((Below.refl W1.heap.size W1).drew.mono HB.out.size))
  generalize W1.drew = W2 at *
  go_wp2_with fail
  refine wp_region_lexA ⟨[], []⟩ (fun x => Below W2.heap.size W2 x) (by kernel_rfl) (by kernel_rfl) (Below.refl _ _).drew ?_
  intro S hto hof hne
  have yC0 : ∀ z : Wd S, z.w.cell? ⟨b, 0, none⟩ = some (.slice (some ⟨gB, oB, none⟩) B.length kB) := fun z => C0.out z.w (HB.out.trans ((hto z).mono HB.out.size))
  have yX1 : ∀ z : Wd S, z.w.cell? ⟨hE, 1, none⟩ = some (.int .i64 (k : Int)) := fun z => X1.out z.w (HB.out.trans ((hto z).mono HB.out.size))
  have yE0 : ∀ z : Wd S, z.w.cell? ⟨gB, oB + k, none⟩ = some (.slice sd (([] : List (Int × Int))).length cp) := fun z => E0.out z.w (HB.out.trans ((hto z).mono HB.out.size))
  have Hof := Lib.hid hof
  clear hto hof
  refine lexW_light 9 (by kernel_rfl) ?_
  simp only [List.take_succ_cons, List.take_zero, List.drop_succ_cons, List.drop_zero]
  repeat (first | go_big_quiet_skip | (go_big_quiet_want; go_big_quiet_op; go_big_quiet_on))
  refine wpQuiet_nil ?_
  refine lexW_done ?_
  clear yC0 yX1 yE0
  have HB := Lib.hid (HB.out.trans ((Below.refl W2.heap.size W2).drew.mono HB.out.size))
  generalize W2.drew = W3 at *
  have qX0 := X0.out _ HB.out
  simp only [List.length_nil] at *
  go_wp2_with fail
  clear qX0
  refine wp_region_lexA ⟨[], []⟩ (fun x => Below W3.heap.size W3 x) (by kernel_rfl) (by kernel_rfl) (Below.refl _ _).drew ?_
  intro S hto hof hne
  have yC1 : ∀ z : Wd S, z.w.cell? ⟨b, 1, none⟩ = some (.slice (some ⟨gM, oM, none⟩) M.length kM) := fun z => C1.out z.w (HB.out.trans ((hto z).mono HB.out.size))
  have yX2 : ∀ z : Wd S, z.w.cell? ⟨hE, 2, none⟩ = some (.int .i64 (j : Int)) := fun z => X2.out z.w (HB.out.trans ((hto z).mono HB.out.size))
  have yE3 : ∀ z : Wd S, z.w.cell? ⟨gM, oM + j, none⟩ = some (.int .u32 (M.getD j 0)) := fun z => E3.out z.w (HB.out.trans ((hto z).mono HB.out.size))
  have yX3 : ∀ z : Wd S, z.w.cell? ⟨hE, 3, none⟩ = some (.int .u32 va) := fun z => X3.out z.w (HB.out.trans ((hto z).mono HB.out.size))
  rw [HM.out] at yE3
  have Hof := Lib.hid hof
  clear hto hof
  refine lexW_light 11 (by kernel_rfl) ?_
  simp only [List.take_succ_cons, List.take_zero, List.drop_succ_cons, List.drop_zero]
  repeat (first | go_big_quiet_skip | (go_big_quiet_want; go_big_quiet_op; go_big_quiet_on))
  refine wpQuiet_nil ?_
  refine lexW_done ?_
  clear yC1 yX2 yE3 yX3
  have HB := Lib.hid (HB.out.trans ((Below.refl W3.heap.size W3).drew.mono HB.out.size))
  generalize W3.drew = W4 at *
  have qX5 := X5.out _ HB.out
  go_wp2_with fail
  clear qX5
  have hsz := HB.out.size
  have hbW := ((HH.out.below HB.out).lt b (.inl rfl)).2
  have hgW : gM < W4.heap.size := Nat.lt_of_lt_of_le HGM.out (Nat.le_trans HB0.out.size hsz)
  have hEW : hE < W4.heap.size := World.block_lt_of_cell? _ _ (X2.out _ HB.out)
  have hnM := HIN.out.neMB (g := gM) rfl
  have hEM : hE ≠ gM := by have := HGM.out; have := HHE.out; omega
  refine wp_region_lexA ⟨[], []⟩ (fun x => Mods (fun q => q = gM) W4 x) (by kernel_rfl) (by kernel_rfl) (Mods.refl _ _).drew ?_
  intro S hto hof hne
  have yC1 : ∀ z : Wd S, z.w.cell? ⟨b, 1, none⟩ = some (.slice (some ⟨gM, oM, none⟩) M.length kM) := fun z => ((hto z).cell (p := ⟨b, 1, none⟩) hbW (fun e => hnM.1 e.symm)).trans (C1.out _ HB.out)
  have yX2 : ∀ z : Wd S, z.w.cell? ⟨hE, 2, none⟩ = some (.int .i64 (j : Int)) := fun z => ((hto z).cell (p := ⟨hE, 2, none⟩) hEW hEM).trans (X2.out _ HB.out)
  have yX4 : ∀ z : Wd S, z.w.cell? ⟨hE, 4, none⟩ = some (.int .u32 ne) := fun z => ((hto z).cell (p := ⟨hE, 4, none⟩) hEW hEM).trans (X4.out _ HB.out)
  have Hof := Lib.hid hof
  clear hto hof
  refine lexW_light 9 (by kernel_rfl) ?_
  simp only [List.take_succ_cons, List.take_zero, List.drop_succ_cons, List.drop_zero]
  repeat (first | go_big_quiet_skip | (go_big_quiet_want; go_big_quiet_op; go_big_quiet_on))
  refine wpQuiet_nil ?_
  clear yC1 yX2 yX4
  have HB := Lib.hid (HB.out.trans ((Below.refl W4.heap.size W4).drew.mono HB.out.size))
  have hMd : Mods (fun q => q = gM) W4 W4.drew := (Mods.refl _ _).drew
  generalize W4.drew = V at *
  have z1 := E3.out _ HB.out
  have z2 := Z3.out _ HB.out
  have hgV : gM < V.heap.size := Nat.lt_of_lt_of_le HGM.out (Nat.le_trans HB0.out.size HB.out.size)
  have HMd := Lib.hid hMd
  clear hMd hsz hbW hgW hEW hnM hEM
  refine lexW_heavy (by kernel_rfl) ?_
  go_wp2_with fail
  have hMS := (Mods.refl (fun q => q = gM) V).setCell (p := ⟨gM, oM + j, none⟩) (show gM = gM from rfl) (.int .u32 ne)
  refine lexQ_more (Hof.out _ (HMd.out.trans hMS fun _ _ hh => hh)) ?_
  refine lexW_done ?_
  have h2 := (HH.out.below HB.out).setMem rfl HJJ.out ne
  have HH2 := Lib.hid h2
  have hmm : Mods (mdS b (.slice (some ⟨gB, oB, none⟩) B.length kB) (.slice (some ⟨gM, oM, none⟩) M.length kM) vs) w (V.setCell ⟨gM, oM + j, none⟩ (.int .u32 ne)) := Mods.setCell (Mods.of_below (HB0.out.trans (HB.out.mono HB0.out.size))) (p := ⟨gM, oM + j, none⟩) (.inr (.inr (.inl rfl))) _
  have HMM := Lib.hid hmm
  clear hMS h2 hmm z1 z2
  go_wp2_with fail
  go_ret
  exact ⟨rfl, vs, HH2.out, HMM.out, fun _ h => .inl h⟩

set_option maxRecDepth 100000 in
set_option maxHeartbeats 16000000 in
theorem rcommit_ok (lo b : Nat) (vB vM : Value) (vs : List Value) (B : Bufs) (M : List Int) (k j : Nat) (L : List (Int × Int)) (va ne : Int) (dn : Bool) (w : World) (h : MdAt tyR w lo b vB vM vs B M) (hk : k < B.length) (hj : j < M.length) (hL : B.getD k [] = ((j : Int), va) :: L) :
    Calls Tryd.prog 21 #[.pointer (some ⟨b, 0, none⟩), .agg #[.int .i64 3, .int .i64 (k : Int), .int .i64 (j : Int), .int .u32 va, .int .u32 ne, .bool dn]] w fun ev w' => ev = .returned (.int .i64 0) ∧ StepP tyR w w' lo b vB vM vs (B.set k L) (M.set j va) := by
  have g1 : decide ((k : Int) < 0) = false := by simp
  have g2 : decide ((k : Int) ≥ (B.length : Int)) = false := by simp; omega
  have g3 : decide (B.length ≤ k) = false := by simp; omega
  have g7 : decide ((j : Int) < 0) = false := by simp
  have g8 : decide ((j : Int) ≥ (M.length : Int)) = false := by simp; omega
  have g9 : decide (M.length ≤ j) = false := by simp; omega
  obtain ⟨gB, oB, kB, sd, cp, rfl, hvk, e0, z0, hrow⟩ := h.buf hk
  rw [hL] at hvk e0 hrow
  obtain ⟨gM, oM, kM, rfl, e3, z3⟩ := h.mem hj
  have hX := heap_alloc_new w (.cells #[.int .i64 3, .int .i64 (k : Int), .int .i64 (j : Int), .int .u32 va, .int .u32 ne, .bool dn] 24)
  have hb0 : Below w.heap.size w (w.alloc (.cells #[.int .i64 3, .int .i64 (k : Int), .int .i64 (j : Int), .int .u32 va, .int .u32 ne, .bool dn] 24)) := (Below.refl _ _).alloc (Nat.le_refl _) _
  have HB0 := Lib.hid hb0
  have hh := h.below hb0
  have hbl := (hh.lt b (.inl rfl)).2
  obtain ⟨hE, hhE⟩ : ∃ hE, hE = w.heap.size := ⟨_, rfl⟩
  rw [← hhE] at hX
  generalize hW0 : w.alloc (.cells #[.int .i64 3, .int .i64 (k : Int), .int .i64 (j : Int), .int .u32 va, .int .u32 ne, .bool dn] 24) = W0 at *
  have HW0 := Lib.hid hW0
  have HHE := Lib.hid hhE
  have hxl := (Array.getElem?_eq_some_iff.1 hX).1
  have X0 := Lib.hid (show ∀ W, Below W0.heap.size W0 W → W.cell? ⟨hE, 0, none⟩ = some (.int .i64 3) from fun W hb => (hb.cell (p := ⟨hE, 0, none⟩) hxl).trans (cell_of hX 0))
  have X1 := Lib.hid (show ∀ W, Below W0.heap.size W0 W → W.cell? ⟨hE, 1, none⟩ = some (.int .i64 (k : Int)) from fun W hb => (hb.cell (p := ⟨hE, 1, none⟩) hxl).trans (cell_of hX 1))
  have X2 := Lib.hid (show ∀ W, Below W0.heap.size W0 W → W.cell? ⟨hE, 2, none⟩ = some (.int .i64 (j : Int)) from fun W hb => (hb.cell (p := ⟨hE, 2, none⟩) hxl).trans (cell_of hX 2))
  have X3 := Lib.hid (show ∀ W, Below W0.heap.size W0 W → W.cell? ⟨hE, 3, none⟩ = some (.int .u32 va) from fun W hb => (hb.cell (p := ⟨hE, 3, none⟩) hxl).trans (cell_of hX 3))
  have X4 := Lib.hid (show ∀ W, Below W0.heap.size W0 W → W.cell? ⟨hE, 4, none⟩ = some (.int .u32 ne) from fun W hb => (hb.cell (p := ⟨hE, 4, none⟩) hxl).trans (cell_of hX 4))
  have X5 := Lib.hid (show ∀ W, Below W0.heap.size W0 W → W.cell? ⟨hE, 5, none⟩ = some (.bool dn) from fun W hb => (hb.cell (p := ⟨hE, 5, none⟩) hxl).trans (cell_of hX 5))
  have C0 := Lib.hid (show ∀ W, Below W0.heap.size W0 W → W.cell? ⟨b, 0, none⟩ = some (.slice (some ⟨gB, oB, none⟩) B.length kB) from fun W hb => (hb.cell (p := ⟨b, 0, none⟩) hbl).trans (cell_of hh.blk 0))
  have C1 := Lib.hid (show ∀ W, Below W0.heap.size W0 W → W.cell? ⟨b, 1, none⟩ = some (.slice (some ⟨gM, oM, none⟩) M.length kM) from fun W hb => (hb.cell (p := ⟨b, 1, none⟩) hbl).trans (cell_of hh.blk 1))
  have hgB := (h.lt gB (.inr (.inl rfl))).2
  have E0 := Lib.hid (show ∀ W, Below W0.heap.size W0 W → W.cell? ⟨gB, oB + k, none⟩ = some (.slice sd (((j : Int), va) :: L).length cp) from fun W hb => (hb.cell (p := ⟨gB, oB + k, none⟩) (Nat.lt_of_lt_of_le hgB HB0.out.size)).trans ((HB0.out.cell (p := ⟨gB, oB + k, none⟩) hgB).trans e0))
  have Z0 := Lib.hid (show ∀ W, Below W0.heap.size W0 W → W.frozen? ⟨gB, oB + k, none⟩ = false from fun W hb => (World.frozen?_of_block (a := ⟨gB, oB + k, none⟩) ((hb.block gB (Nat.lt_of_lt_of_le hgB HB0.out.size)).trans (HB0.out.block gB hgB))).trans z0)
  have ROW := Lib.hid (show ∀ W, Below W0.heap.size W0 W → winRow W lo 87 2 (.slice sd (((j : Int), va) :: L).length cp) (((j : Int), va) :: L).length (flatW (((j : Int), va) :: L)) from fun W hb => (hrow.below HB0.out).below hb)
  have HVK := Lib.hid hvk
  have HGB := Lib.hid hgB
  have hkl : (k : Int) < B.length := by omega
  have HKK := Lib.hid hk
  clear e0 z0 hrow hvk hk hgB
  have hgM := (h.lt gM (.inr (.inr (.inl rfl)))).2
  have E3 := Lib.hid (show ∀ W, Below W0.heap.size W0 W → W.cell? ⟨gM, oM + j, none⟩ = some (.int .u32 (M.getD j 0)) from fun W hb => (hb.cell (p := ⟨gM, oM + j, none⟩) (Nat.lt_of_lt_of_le hgM HB0.out.size)).trans ((HB0.out.cell (p := ⟨gM, oM + j, none⟩) hgM).trans e3))
  have Z3 := Lib.hid (show ∀ W, Below W0.heap.size W0 W → W.frozen? ⟨gM, oM + j, none⟩ = false from fun W hb => (World.frozen?_of_block (a := ⟨gM, oM + j, none⟩) ((hb.block gM (Nat.lt_of_lt_of_le hgM HB0.out.size)).trans (HB0.out.block gM hgM))).trans z3)
  have HGM := Lib.hid hgM
  have hjl : (j : Int) < M.length := by omega
  have HJJ := Lib.hid hj
  clear e3 z3 hj hgM
  have HH := Lib.hid hh
  have HIN := Lib.hid h
  have HB := Lib.hid (Below.refl W0.heap.size W0)
  clear hX hb0 hh hbl hxl h hW0 hhE
  go_enter Tryd.func21, Tryd.ntmps21
  go_wp2_with fail
  rw [← HHE.out, HW0.out]
  refine wp_region_lexA ⟨[], []⟩ (fun x => Below W0.heap.size W0 x) (by kernel_rfl) (by kernel_rfl) (Below.refl _ _).drew ?_
  intro S hto hof hne
  have yX0 : ∀ z : Wd S, z.w.cell? ⟨hE, 0, none⟩ = some (.int .i64 3) := fun z => X0.out z.w (HB.out.trans ((hto z).mono HB.out.size))
  have yX1 : ∀ z : Wd S, z.w.cell? ⟨hE, 1, none⟩ = some (.int .i64 (k : Int)) := fun z => X1.out z.w (HB.out.trans ((hto z).mono HB.out.size))
  have yC0 : ∀ z : Wd S, z.w.cell? ⟨b, 0, none⟩ = some (.slice (some ⟨gB, oB, none⟩) B.length kB) := fun z => C0.out z.w (HB.out.trans ((hto z).mono HB.out.size))
  have Hof := Lib.hid hof
  clear hto hof
  refine lexW_light 23 (by kernel_rfl) ?_
  simp only [List.take_succ_cons, List.take_zero, List.drop_succ_cons, List.drop_zero]
  repeat (first | go_big_quiet_skip | (go_big_quiet_want; go_big_quiet_op; go_big_quiet_on))
  refine wpQuiet_nil ?_
  refine lexW_done ?_
  clear yX0 yX1 yC0
  have HB := Lib.hid (HB.out.trans ((Below.refl W0.heap.size W0).drew.mono HB.out.size))
  generalize W0.drew = W1 at *
  go_wp2_with fail
  refine wp_region_lexA ⟨[], []⟩ (fun x => Below W1.heap.size W1 x) (by kernel_rfl) (by kernel_rfl) (Below.refl _ _).drew ?_
  intro S hto hof hne
  have yX0 : ∀ z : Wd S, z.w.cell? ⟨hE, 0, none⟩ = some (.int .i64 3) := fun z => X0.out z.w (HB.out.trans ((hto z).mono HB.out.size))
  have yX2 : ∀ z : Wd S, z.w.cell? ⟨hE, 2, none⟩ = some (.int .i64 (j : Int)) := fun z => X2.out z.w (HB.out.trans ((hto z).mono HB.out.size))
  have yC1 : ∀ z : Wd S, z.w.cell? ⟨b, 1, none⟩ = some (.slice (some ⟨gM, oM, none⟩) M.length kM) := fun z => C1.out z.w (HB.out.trans ((hto z).mono HB.out.size))
  have Hof := Lib.hid hof
  clear hto hof
  refine lexW_light 18 (by kernel_rfl) ?_
  simp only [List.take_succ_cons, List.take_zero, List.drop_succ_cons, List.drop_zero]
  repeat (first | go_big_quiet_skip | (go_big_quiet_want; go_big_quiet_op; go_big_quiet_on))
  refine wpQuiet_nil ?_
  refine lexW_done ?_
  clear yX0 yX2 yC1
  have HB := Lib.hid (HB.out.trans ((Below.refl W1.heap.size W1).drew.mono HB.out.size))
  generalize W1.drew = W2 at *
  go_wp2_with fail
  refine wp_region_lexA ⟨[], []⟩ (fun x => Below W2.heap.size W2 x) (by kernel_rfl) (by kernel_rfl) (Below.refl _ _).drew ?_
  intro S hto hof hne
  have yC0 : ∀ z : Wd S, z.w.cell? ⟨b, 0, none⟩ = some (.slice (some ⟨gB, oB, none⟩) B.length kB) := fun z => C0.out z.w (HB.out.trans ((hto z).mono HB.out.size))
  have yX1 : ∀ z : Wd S, z.w.cell? ⟨hE, 1, none⟩ = some (.int .i64 (k : Int)) := fun z => X1.out z.w (HB.out.trans ((hto z).mono HB.out.size))
  have yE0 : ∀ z : Wd S, z.w.cell? ⟨gB, oB + k, none⟩ = some (.slice sd (((j : Int), va) :: L).length cp) := fun z => E0.out z.w (HB.out.trans ((hto z).mono HB.out.size))
  have Hof := Lib.hid hof
  clear hto hof
  refine lexW_light 9 (by kernel_rfl) ?_
  simp only [List.take_succ_cons, List.take_zero, List.drop_succ_cons, List.drop_zero]
  repeat (first | go_big_quiet_skip | (go_big_quiet_want; go_big_quiet_op; go_big_quiet_on))
  refine wpQuiet_nil ?_
  refine lexW_done ?_
  clear yC0 yX1 yE0
  have HB := Lib.hid (HB.out.trans ((Below.refl W2.heap.size W2).drew.mono HB.out.size))
  generalize W2.drew = W3 at *
  have qX0 := X0.out _ HB.out
  obtain ⟨gw, ow, cw, he, _, _, hgw, hcc⟩ := (ROW.out _ HB.out).form (by simp)
  simp only [Value.slice.injEq] at he
  obtain ⟨rfl, _, rfl⟩ := he
  have f1 := hcc 0 (.int .i64 (j : Int)) rfl
  have f2 := hcc 1 (.int .u32 va) rfl
  rw [Nat.add_zero] at f1
  obtain ⟨len, hlen⟩ : ∃ len, len = L.length + 1 := ⟨_, rfl⟩
  rw [← hlen]
  have hl0 : ((len : Int) == 0) = false := by rw [hlen]; simp only [beq_eq_false_iff_ne]; omega
  have hl1 : (0 : Int) < len := by omega
  have hl2 : 0 < len := by omega
  have HLEN := Lib.hid hlen
  clear hcc hlen
  go_wp2_with fail
  clear qX0
  refine wp_region_lexA ⟨[], []⟩ (fun x => Below W3.heap.size W3 x) (by kernel_rfl) (by kernel_rfl) (Below.refl _ _).drew ?_
  intro S hto hof hne
  have yX2 : ∀ z : Wd S, z.w.cell? ⟨hE, 2, none⟩ = some (.int .i64 (j : Int)) := fun z => X2.out z.w (HB.out.trans ((hto z).mono HB.out.size))
  have yX3 : ∀ z : Wd S, z.w.cell? ⟨hE, 3, none⟩ = some (.int .u32 va) := fun z => X3.out z.w (HB.out.trans ((hto z).mono HB.out.size))
  have y1 : ∀ z : Wd S, z.w.cell? ⟨gw, ow, none⟩ = some (.int .i64 (j : Int)) := fun z => ((hto z).cell (p := ⟨gw, ow, none⟩) hgw).trans f1
  have y2 : ∀ z : Wd S, z.w.cell? ⟨gw, ow + 1, none⟩ = some (.int .u32 va) := fun z => ((hto z).cell (p := ⟨gw, ow + 1, none⟩) hgw).trans f2
  clear f1 f2 hgw
  have Hof := Lib.hid hof
  clear hto hof
  refine lexW_light 9 (by kernel_rfl) ?_
  simp only [List.take_succ_cons, List.take_zero, List.drop_succ_cons, List.drop_zero]
  repeat (first | go_big_quiet_skip | (go_big_quiet_want; go_big_quiet_op; go_big_quiet_on))
  refine wpQuiet_nil ?_
  refine lexW_done ?_
  clear yX2 yX3 y1 y2
  have HB := Lib.hid (HB.out.trans ((Below.refl W3.heap.size W3).drew.mono HB.out.size))
  generalize W3.drew = W4 at *
  go_wp2_with fail
  have hbW := ((HH.out.below HB.out).lt b (.inl rfl)).2
  have hEW : hE < W4.heap.size := World.block_lt_of_cell? _ _ (X2.out _ HB.out)
  have hnB := HIN.out.neBB (g := gB) rfl
  have hEB : hE ≠ gB := by have := HGB.out; have := HHE.out; omega
  refine wp_region_lexA ⟨[], []⟩ (fun x => Mods (fun q => q = gB) W4 x) (by kernel_rfl) (by kernel_rfl) (Mods.refl _ _).drew ?_
  intro S hto hof hne
  have yC0 : ∀ z : Wd S, z.w.cell? ⟨b, 0, none⟩ = some (.slice (some ⟨gB, oB, none⟩) B.length kB) := fun z => ((hto z).cell (p := ⟨b, 0, none⟩) hbW (fun e => hnB.1 e.symm)).trans (C0.out _ HB.out)
  have yX1 : ∀ z : Wd S, z.w.cell? ⟨hE, 1, none⟩ = some (.int .i64 (k : Int)) := fun z => ((hto z).cell (p := ⟨hE, 1, none⟩) hEW hEB).trans (X1.out _ HB.out)
  have Hof := Lib.hid hof
  clear hto hof
  have HNB := Lib.hid hnB
  have HEB := Lib.hid hEB
  have HB := Lib.hid (HB.out.trans ((Below.refl W4.heap.size W4).drew.mono HB.out.size))
  have hMd : Mods (fun q => q = gB) W4 W4.drew := (Mods.refl _ _).drew
  have HMd := Lib.hid hMd
  clear hbW hEW hnB hEB hMd
  obtain ⟨v', hrow', hown', hcase⟩ : ∃ v', (∀ V, Below W0.heap.size W0 V → winRow V lo 87 2 v' L.length (flatW L)) ∧ (∀ q, v'.ownBlock = some q → q = gw) ∧ ((cp = 1 ∧ L.length = 0 ∧ v' = .slice (some ⟨gw, ow, none⟩) 0 0) ∨ (¬ cp = 1 ∧ v' = .slice (some ⟨gw, ow + 2, none⟩) L.length (cp - 1))) := by
    obtain ⟨_, _, _, he, hcap, _, _, _⟩ := (ROW.out _ HB.out).form (by simp)
    simp only [Value.slice.injEq] at he
    obtain ⟨_, _, rfl⟩ := he
    simp only [List.length_cons] at hcap
    by_cases h1 : cp = 1
    · obtain rfl : L = [] := List.eq_nil_of_length_eq_zero (by omega)
      exact ⟨.slice (some ⟨gw, ow, none⟩) 0 0, fun V hb => (ROW.out V hb).none2, fun q hq => (Option.some.inj hq).symm, .inl ⟨h1, rfl, rfl⟩⟩
    · exact ⟨.slice (some ⟨gw, ow + 2, none⟩) L.length (cp - 1), fun V hb => (show winRow V lo 87 2 (.slice (some ⟨gw, ow, none⟩) (L.length + 1) cp) (L.length + 1) (.int .i64 (j : Int) :: .int .u32 va :: flatW L) from ROW.out V hb).tail2, fun q hq => (Option.some.inj hq).symm, .inr ⟨h1, rfl⟩⟩
  have HROW' := Lib.hid hrow'
  have HOWN' := Lib.hid hown'
  have hcp : len ≤ cp := by
    obtain ⟨_, _, _, he, hcap, _, _, _⟩ := (ROW.out _ HB.out).form (by simp)
    simp only [Value.slice.injEq] at he
    obtain ⟨_, _, rfl⟩ := he
    rw [HLEN.out]
    exact hcap
  clear hrow' hown'
  rcases hcase with ⟨hc1, hL0, hv⟩ | ⟨hc1, hv⟩
  · have HV := Lib.hid hv
    have hlen1 : len = 1 := by rw [HLEN.out]; omega
    subst hc1
    subst hlen1
    clear hv hL0
    refine lexW_light 9 (by kernel_rfl) ?_
    simp only [List.take_succ_cons, List.take_zero, List.drop_succ_cons, List.drop_zero]
    repeat (first | go_big_quiet_skip | (go_big_quiet_want; go_big_quiet_op; go_big_quiet_on))
    refine wpQuiet_nil ?_
    clear yC0 yX1
    have HB := Lib.hid (show Below W0.heap.size W0 W4.drew from HB.out)
    generalize W4.drew = V at *
    have z1 := E0.out _ HB.out
    have z2 := Z0.out _ HB.out
    have hgV : gB < V.heap.size := Nat.lt_of_lt_of_le HGB.out (Nat.le_trans HB0.out.size HB.out.size)
    have hEV : hE < V.heap.size := World.block_lt_of_cell? _ _ (X2.out _ HB.out)
    have HEV := Lib.hid hEV
    clear hEV
    refine lexW_heavy (by kernel_rfl) ?_
    go_wp2_with fail
    have hMS := (Mods.refl (fun q => q = gB) V).setCell (p := ⟨gB, oB + k, none⟩) (show gB = gB from rfl) v'
    rw [← HV.out]
    refine lexQ_more (Hof.out _ (HMd.out.trans hMS fun _ _ hh => hh)) ?_
    refine lexW_done ?_
    have h2 := (HH.out.below HB.out).setBuf rfl HKK.out HVK.out (Mods.refl _ V) (HROW'.out V HB.out) (fun q hq => .inl (by rw [HOWN'.out q hq]; rfl))
    have HH2 := Lib.hid h2
    have hmm : Mods (mdS b (.slice (some ⟨gB, oB, none⟩) B.length kB) (.slice (some ⟨gM, oM, none⟩) M.length kM) vs) w (V.setCell ⟨gB, oB + k, none⟩ v') := Mods.setCell (Mods.of_below (HB0.out.trans (HB.out.mono HB0.out.size))) (p := ⟨gB, oB + k, none⟩) (.inr (.inl rfl)) _
    have HMM := Lib.hid hmm
    have hx2 := (hMS.cell (p := ⟨hE, 2, none⟩) HEV.out HEB.out).trans (X2.out _ HB.out)
    have hx3 := (hMS.cell (p := ⟨hE, 3, none⟩) HEV.out HEB.out).trans (X3.out _ HB.out)
    have hEV2 : hE < (V.setCell ⟨gB, oB + k, none⟩ v').heap.size := World.block_lt_of_cell? _ _ hx2
    clear hMS h2 hmm z1 z2 hgV
    generalize V.setCell ⟨gB, oB + k, none⟩ v' = V2 at *
    obtain ⟨gM', oM', kM', he3, e3, z3⟩ := HH2.out.mem HJJ.out
    simp only [Value.slice.injEq, Option.some.injEq, Addr.mk.injEq] at he3
    obtain ⟨⟨rfl, rfl, _⟩, _, rfl⟩ := he3
    have hbV := (HH2.out.lt b (.inl rfl)).2
    have hgV := (HH2.out.lt gM (.inr (.inr (.inl rfl)))).2
    have hnM := HH2.out.neMB (g := gM) rfl
    have hEM : hE ≠ gM := by have := HGM.out; have := HHE.out; omega
    have hc1 := cell_of HH2.out.blk 1
    have E3V := Lib.hid e3
    have Z3V := Lib.hid z3
    clear e3 z3 Hof hne S
    go_wp2_with fail
    refine wp_region_lexA ⟨[], []⟩ (fun x => Mods (fun q => q = gM) V2 x) (by kernel_rfl) (by kernel_rfl) (Mods.refl _ _).drew ?_
    intro S hto hof hne
    have yC1 : ∀ z : Wd S, z.w.cell? ⟨b, 1, none⟩ = some (.slice (some ⟨gM, oM, none⟩) M.length kM) := fun z => ((hto z).cell (p := ⟨b, 1, none⟩) hbV (fun e => hnM.1 e.symm)).trans hc1
    have yX2 : ∀ z : Wd S, z.w.cell? ⟨hE, 2, none⟩ = some (.int .i64 (j : Int)) := fun z => ((hto z).cell (p := ⟨hE, 2, none⟩) hEV2 hEM).trans hx2
    have yX3 : ∀ z : Wd S, z.w.cell? ⟨hE, 3, none⟩ = some (.int .u32 va) := fun z => ((hto z).cell (p := ⟨hE, 3, none⟩) hEV2 hEM).trans hx3
    have Hof := Lib.hid hof
    clear hto hof
    refine lexW_light 9 (by kernel_rfl) ?_
    simp only [List.take_succ_cons, List.take_zero, List.drop_succ_cons, List.drop_zero]
    repeat (first | go_big_quiet_skip | (go_big_quiet_want; go_big_quiet_op; go_big_quiet_on))
    refine wpQuiet_nil ?_
    clear yC1 yX2 yX3 hx2 hx3 hc1
    have hD : Below V2.heap.size V2 V2.drew := (Below.refl _ _).drew
    have HH3 := Lib.hid (HH2.out.below hD)
    have HMM3 := Lib.hid (HMM.out.drew)
    have hMd : Mods (fun q => q = gM) V2 V2.drew := (Mods.refl _ _).drew
    have z1 := (hD.cell (p := ⟨gM, oM + j, none⟩) hgV).trans E3V.out
    have z2 := (World.frozen?_of_block (a := ⟨gM, oM + j, none⟩) (hD.block gM hgV)).trans Z3V.out
    have hgV := Nat.lt_of_lt_of_le hgV hD.size
    have HMd3 := Lib.hid hMd
    clear hMd hD hbV hnM hEM
    generalize V2.drew = V3 at *
    refine lexW_heavy (by kernel_rfl) ?_
    go_wp2_with fail
    have hMS := (Mods.refl (fun q => q = gM) V3).setCell (p := ⟨gM, oM + j, none⟩) (show gM = gM from rfl) (.int .u32 va)
    refine lexQ_more (Hof.out _ (HMd3.out.trans hMS fun _ _ hh => hh)) ?_
    refine lexW_done ?_
    have h2 := HH3.out.setMem rfl HJJ.out va
    have HH4 := Lib.hid h2
    have hmm := Mods.setCell HMM3.out (p := ⟨gM, oM + j, none⟩) (.inr (.inr (.inl rfl))) (.int .u32 va)
    have HMM4 := Lib.hid hmm
    clear hMS h2 hmm z1 z2
    go_wp2_with fail
    go_ret
    exact ⟨rfl, _, HH4.out, HMM4.out, mdS_set HVK.out fun q hq => .inl (by rw [HOWN'.out q hq]; rfl)⟩
  · have HV := Lib.hid hv
    have hl3 : 1 ≤ len := by omega
    have HLS := Lib.hid (show len - 1 = L.length by rw [HLEN.out]; omega)
    clear hv
    refine lexW_light 9 (by kernel_rfl) ?_
    simp only [List.take_succ_cons, List.take_zero, List.drop_succ_cons, List.drop_zero]
    repeat (first | go_big_quiet_skip | (go_big_quiet_want; go_big_quiet_op; go_big_quiet_on))
    refine wpQuiet_nil ?_
    clear yC0 yX1
    have HB := Lib.hid (show Below W0.heap.size W0 W4.drew from HB.out)
    generalize W4.drew = V at *
    have z1 := E0.out _ HB.out
    have z2 := Z0.out _ HB.out
    have hgV : gB < V.heap.size := Nat.lt_of_lt_of_le HGB.out (Nat.le_trans HB0.out.size HB.out.size)
    have hEV : hE < V.heap.size := World.block_lt_of_cell? _ _ (X2.out _ HB.out)
    have HEV := Lib.hid hEV
    clear hEV
    refine lexW_heavy (by kernel_rfl) ?_
    go_wp2_with fail
    have hMS := (Mods.refl (fun q => q = gB) V).setCell (p := ⟨gB, oB + k, none⟩) (show gB = gB from rfl) v'
    rw [HLS.out, ← HV.out]
    refine lexQ_more (Hof.out _ (HMd.out.trans hMS fun _ _ hh => hh)) ?_
    refine lexW_done ?_
    have h2 := (HH.out.below HB.out).setBuf rfl HKK.out HVK.out (Mods.refl _ V) (HROW'.out V HB.out) (fun q hq => .inl (by rw [HOWN'.out q hq]; rfl))
    have HH2 := Lib.hid h2
    have hmm : Mods (mdS b (.slice (some ⟨gB, oB, none⟩) B.length kB) (.slice (some ⟨gM, oM, none⟩) M.length kM) vs) w (V.setCell ⟨gB, oB + k, none⟩ v') := Mods.setCell (Mods.of_below (HB0.out.trans (HB.out.mono HB0.out.size))) (p := ⟨gB, oB + k, none⟩) (.inr (.inl rfl)) _
    have HMM := Lib.hid hmm
    have hx2 := (hMS.cell (p := ⟨hE, 2, none⟩) HEV.out HEB.out).trans (X2.out _ HB.out)
    have hx3 := (hMS.cell (p := ⟨hE, 3, none⟩) HEV.out HEB.out).trans (X3.out _ HB.out)
    have hEV2 : hE < (V.setCell ⟨gB, oB + k, none⟩ v').heap.size := World.block_lt_of_cell? _ _ hx2
    clear hMS h2 hmm z1 z2 hgV
    generalize V.setCell ⟨gB, oB + k, none⟩ v' = V2 at *
    obtain ⟨gM', oM', kM', he3, e3, z3⟩ := HH2.out.mem HJJ.out
    simp only [Value.slice.injEq, Option.some.injEq, Addr.mk.injEq] at he3
    obtain ⟨⟨rfl, rfl, _⟩, _, rfl⟩ := he3
    have hbV := (HH2.out.lt b (.inl rfl)).2
    have hgV := (HH2.out.lt gM (.inr (.inr (.inl rfl)))).2
    have hnM := HH2.out.neMB (g := gM) rfl
    have hEM : hE ≠ gM := by have := HGM.out; have := HHE.out; omega
    have hc1 := cell_of HH2.out.blk 1
    have E3V := Lib.hid e3
    have Z3V := Lib.hid z3
    clear e3 z3 Hof hne S
    go_wp2_with fail
    refine wp_region_lexA ⟨[], []⟩ (fun x => Mods (fun q => q = gM) V2 x) (by kernel_rfl) (by kernel_rfl) (Mods.refl _ _).drew ?_
    intro S hto hof hne
    have yC1 : ∀ z : Wd S, z.w.cell? ⟨b, 1, none⟩ = some (.slice (some ⟨gM, oM, none⟩) M.length kM) := fun z => ((hto z).cell (p := ⟨b, 1, none⟩) hbV (fun e => hnM.1 e.symm)).trans hc1
    have yX2 : ∀ z : Wd S, z.w.cell? ⟨hE, 2, none⟩ = some (.int .i64 (j : Int)) := fun z => ((hto z).cell (p := ⟨hE, 2, none⟩) hEV2 hEM).trans hx2
    have yX3 : ∀ z : Wd S, z.w.cell? ⟨hE, 3, none⟩ = some (.int .u32 va) := fun z => ((hto z).cell (p := ⟨hE, 3, none⟩) hEV2 hEM).trans hx3
    have Hof := Lib.hid hof
    clear hto hof
    refine lexW_light 9 (by kernel_rfl) ?_
    simp only [List.take_succ_cons, List.take_zero, List.drop_succ_cons, List.drop_zero]
    repeat (first | go_big_quiet_skip | (go_big_quiet_want; go_big_quiet_op; go_big_quiet_on))
    refine wpQuiet_nil ?_
    clear yC1 yX2 yX3 hx2 hx3 hc1
    have hD : Below V2.heap.size V2 V2.drew := (Below.refl _ _).drew
    have HH3 := Lib.hid (HH2.out.below hD)
    have HMM3 := Lib.hid (HMM.out.drew)
    have hMd : Mods (fun q => q = gM) V2 V2.drew := (Mods.refl _ _).drew
    have z1 := (hD.cell (p := ⟨gM, oM + j, none⟩) hgV).trans E3V.out
    have z2 := (World.frozen?_of_block (a := ⟨gM, oM + j, none⟩) (hD.block gM hgV)).trans Z3V.out
    have hgV := Nat.lt_of_lt_of_le hgV hD.size
    have HMd3 := Lib.hid hMd
    clear hMd hD hbV hnM hEM
    generalize V2.drew = V3 at *
    refine lexW_heavy (by kernel_rfl) ?_
    go_wp2_with fail
    have hMS := (Mods.refl (fun q => q = gM) V3).setCell (p := ⟨gM, oM + j, none⟩) (show gM = gM from rfl) (.int .u32 va)
    refine lexQ_more (Hof.out _ (HMd3.out.trans hMS fun _ _ hh => hh)) ?_
    refine lexW_done ?_
    have h2 := HH3.out.setMem rfl HJJ.out va
    have HH4 := Lib.hid h2
    have hmm := Mods.setCell HMM3.out (p := ⟨gM, oM + j, none⟩) (.inr (.inr (.inl rfl))) (.int .u32 va)
    have HMM4 := Lib.hid hmm
    clear hMS h2 hmm z1 z2
    go_wp2_with fail
    go_ret
    exact ⟨rfl, _, HH4.out, HMM4.out, mdS_set HVK.out fun q hq => .inl (by rw [HOWN'.out q hq]; rfl)⟩

end Go.Proofs.YtamklohnmbgklaaDoor
