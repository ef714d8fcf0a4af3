/- The document's memory model: an event that changes nothing. -/
import Derived.Test.YtamklohnmbgklaaDoorTs8
import Derived.Test.YtamklohnmbgklaaDoorLexG
namespace Go.Proofs.YtamklohnmbgklaaDoor
open Go.RowKit Go.Extern.Stop Go.Stop Go.Extern

set_option maxRecDepth 100000 in
set_option maxHeartbeats 4000000 in
theorem rarg1 (lo b : Nat) (vB vM : Value) (vs : List Value) (B : Bufs) (M : List Int) (kd co ad : Int) (va ne : Int) (dn : Bool) (w : World) (h : MdAt tyR w lo b vB vM vs B M) (hco : co < 0) :
    Calls Tryd.prog 21 #[.pointer (some ⟨b, 0, none⟩), .agg #[.int .i64 kd, .int .i64 co, .int .i64 ad, .int .u32 va, .int .u32 ne, .bool dn]] w fun ev w' => ev = .returned (.int .i64 1) ∧ Below w.heap.size w w' := by
  have g1 : decide (co < 0) = true := by simpa using hco
  clear hco
  obtain ⟨aB, kB, rfl⟩ := h.rowB.len
  obtain ⟨aM, kM, rfl⟩ := h.rowM.len
  have hX := heap_alloc_new w (.cells #[.int .i64 kd, .int .i64 co, .int .i64 ad, .int .u32 va, .int .u32 ne, .bool dn] 24)
  have hb0 : Below w.heap.size w (w.alloc (.cells #[.int .i64 kd, .int .i64 co, .int .i64 ad, .int .u32 va, .int .u32 ne, .bool dn] 24)) := (Below.refl _ _).alloc (Nat.le_refl _) _
  have HB0 := Lib.hid hb0
  have hh := h.below hb0
  have hbl := (hh.lt b (.inl rfl)).2
  obtain ⟨hE, hhE⟩ : ∃ hE, hE = w.heap.size := ⟨_, rfl⟩
  rw [← hhE] at hX
  generalize hW0 : w.alloc (.cells #[.int .i64 kd, .int .i64 co, .int .i64 ad, .int .u32 va, .int .u32 ne, .bool dn] 24) = W0 at *
  have HW0 := Lib.hid hW0
  have HHE := Lib.hid hhE
  have hxl := (Array.getElem?_eq_some_iff.1 hX).1
  have X0 := Lib.hid (show ∀ W, Below W0.heap.size W0 W → W.cell? ⟨hE, 0, none⟩ = some (.int .i64 kd) from fun W hb => (hb.cell (p := ⟨hE, 0, none⟩) hxl).trans (cell_of hX 0))
  have X1 := Lib.hid (show ∀ W, Below W0.heap.size W0 W → W.cell? ⟨hE, 1, none⟩ = some (.int .i64 co) from fun W hb => (hb.cell (p := ⟨hE, 1, none⟩) hxl).trans (cell_of hX 1))
  have X2 := Lib.hid (show ∀ W, Below W0.heap.size W0 W → W.cell? ⟨hE, 2, none⟩ = some (.int .i64 ad) from fun W hb => (hb.cell (p := ⟨hE, 2, none⟩) hxl).trans (cell_of hX 2))
  have X3 := Lib.hid (show ∀ W, Below W0.heap.size W0 W → W.cell? ⟨hE, 3, none⟩ = some (.int .u32 va) from fun W hb => (hb.cell (p := ⟨hE, 3, none⟩) hxl).trans (cell_of hX 3))
  have X4 := Lib.hid (show ∀ W, Below W0.heap.size W0 W → W.cell? ⟨hE, 4, none⟩ = some (.int .u32 ne) from fun W hb => (hb.cell (p := ⟨hE, 4, none⟩) hxl).trans (cell_of hX 4))
  have X5 := Lib.hid (show ∀ W, Below W0.heap.size W0 W → W.cell? ⟨hE, 5, none⟩ = some (.bool dn) from fun W hb => (hb.cell (p := ⟨hE, 5, none⟩) hxl).trans (cell_of hX 5))
  have C0 := Lib.hid (show ∀ W, Below W0.heap.size W0 W → W.cell? ⟨b, 0, none⟩ = some (.slice aB B.length kB) from fun W hb => (hb.cell (p := ⟨b, 0, none⟩) hbl).trans (cell_of hh.blk 0))
  have C1 := Lib.hid (show ∀ W, Below W0.heap.size W0 W → W.cell? ⟨b, 1, none⟩ = some (.slice aM M.length kM) from fun W hb => (hb.cell (p := ⟨b, 1, none⟩) hbl).trans (cell_of hh.blk 1))
  have HH := Lib.hid hh
  have HIN := Lib.hid h
  have HB := Lib.hid (Below.refl W0.heap.size W0)
  clear hX hb0 hh hbl hxl h hW0 hhE
  go_enter Tryd.func21, Tryd.ntmps21
  go_wp2_with fail
  rw [← HHE.out, HW0.out]
  refine wp_region_lexA ⟨[], []⟩ (fun x => Below W0.heap.size W0 x) (by kernel_rfl) (by kernel_rfl) (Below.refl _ _).drew ?_
  intro S hto hof hne
  have yX0 : ∀ z : Wd S, z.w.cell? ⟨hE, 0, none⟩ = some (.int .i64 kd) := fun z => X0.out z.w (HB.out.trans ((hto z).mono HB.out.size))
  have yX1 : ∀ z : Wd S, z.w.cell? ⟨hE, 1, none⟩ = some (.int .i64 co) := fun z => X1.out z.w (HB.out.trans ((hto z).mono HB.out.size))
  have yC0 : ∀ z : Wd S, z.w.cell? ⟨b, 0, none⟩ = some (.slice aB B.length kB) := fun z => C0.out z.w (HB.out.trans ((hto z).mono HB.out.size))
  have Hof := Lib.hid hof
  clear hto hof
  refine lexW_light 23 (by kernel_rfl) ?_
  simp only [List.take_succ_cons, List.take_zero, List.drop_succ_cons, List.drop_zero]
  repeat (first | go_big_quiet_skip | (go_big_quiet_want; go_big_quiet_op; go_big_quiet_on))
  refine wpQuiet_nil ?_
  refine lexW_done ?_
  clear yX0 yX1 yC0
  have HB := Lib.hid (HB.out.trans ((Below.refl W0.heap.size W0).drew.mono HB.out.size))
  generalize W0.drew = W1 at *
  go_wp2_with fail
  go_ret
  exact ⟨rfl, HB0.out.trans (HB.out.mono HB0.out.size)⟩

set_option maxRecDepth 100000 in
set_option maxHeartbeats 4000000 in
theorem rarg2 (lo b : Nat) (vB vM : Value) (vs : List Value) (B : Bufs) (M : List Int) (kd co ad : Int) (va ne : Int) (dn : Bool) (w : World) (h : MdAt tyR w lo b vB vM vs B M) (hco : 0 ≤ co) (hco2 : (B.length : Int) ≤ co) :
    Calls Tryd.prog 21 #[.pointer (some ⟨b, 0, none⟩), .agg #[.int .i64 kd, .int .i64 co, .int .i64 ad, .int .u32 va, .int .u32 ne, .bool dn]] w fun ev w' => ev = .returned (.int .i64 1) ∧ Below w.heap.size w w' := by
  have g1 : decide (co < 0) = false := by simpa using hco
  have g2 : decide (co ≥ (B.length : Int)) = true := by simpa using hco2
  clear hco hco2
  obtain ⟨aB, kB, rfl⟩ := h.rowB.len
  obtain ⟨aM, kM, rfl⟩ := h.rowM.len
  have hX := heap_alloc_new w (.cells #[.int .i64 kd, .int .i64 co, .int .i64 ad, .int .u32 va, .int .u32 ne, .bool dn] 24)
  have hb0 : Below w.heap.size w (w.alloc (.cells #[.int .i64 kd, .int .i64 co, .int .i64 ad, .int .u32 va, .int .u32 ne, .bool dn] 24)) := (Below.refl _ _).alloc (Nat.le_refl _) _
  have HB0 := Lib.hid hb0
  have hh := h.below hb0
  have hbl := (hh.lt b (.inl rfl)).2
  obtain ⟨hE, hhE⟩ : ∃ hE, hE = w.heap.size := ⟨_, rfl⟩
  rw [← hhE] at hX
  generalize hW0 : w.alloc (.cells #[.int .i64 kd, .int .i64 co, .int .i64 ad, .int .u32 va, .int .u32 ne, .bool dn] 24) = W0 at *
  have HW0 := Lib.hid hW0
  have HHE := Lib.hid hhE
  have hxl := (Array.getElem?_eq_some_iff.1 hX).1
  have X0 := Lib.hid (show ∀ W, Below W0.heap.size W0 W → W.cell? ⟨hE, 0, none⟩ = some (.int .i64 kd) from fun W hb => (hb.cell (p := ⟨hE, 0, none⟩) hxl).trans (cell_of hX 0))
  have X1 := Lib.hid (show ∀ W, Below W0.heap.size W0 W → W.cell? ⟨hE, 1, none⟩ = some (.int .i64 co) from fun W hb => (hb.cell (p := ⟨hE, 1, none⟩) hxl).trans (cell_of hX 1))
  have X2 := Lib.hid (show ∀ W, Below W0.heap.size W0 W → W.cell? ⟨hE, 2, none⟩ = some (.int .i64 ad) from fun W hb => (hb.cell (p := ⟨hE, 2, none⟩) hxl).trans (cell_of hX 2))
  have X3 := Lib.hid (show ∀ W, Below W0.heap.size W0 W → W.cell? ⟨hE, 3, none⟩ = some (.int .u32 va) from fun W hb => (hb.cell (p := ⟨hE, 3, none⟩) hxl).trans (cell_of hX 3))
  have X4 := Lib.hid (show ∀ W, Below W0.heap.size W0 W → W.cell? ⟨hE, 4, none⟩ = some (.int .u32 ne) from fun W hb => (hb.cell (p := ⟨hE, 4, none⟩) hxl).trans (cell_of hX 4))
  have X5 := Lib.hid (show ∀ W, Below W0.heap.size W0 W → W.cell? ⟨hE, 5, none⟩ = some (.bool dn) from fun W hb => (hb.cell (p := ⟨hE, 5, none⟩) hxl).trans (cell_of hX 5))
  have C0 := Lib.hid (show ∀ W, Below W0.heap.size W0 W → W.cell? ⟨b, 0, none⟩ = some (.slice aB B.length kB) from fun W hb => (hb.cell (p := ⟨b, 0, none⟩) hbl).trans (cell_of hh.blk 0))
  have C1 := Lib.hid (show ∀ W, Below W0.heap.size W0 W → W.cell? ⟨b, 1, none⟩ = some (.slice aM M.length kM) from fun W hb => (hb.cell (p := ⟨b, 1, none⟩) hbl).trans (cell_of hh.blk 1))
  have HH := Lib.hid hh
  have HIN := Lib.hid h
  have HB := Lib.hid (Below.refl W0.heap.size W0)
  clear hX hb0 hh hbl hxl h hW0 hhE
  go_enter Tryd.func21, Tryd.ntmps21
  go_wp2_with fail
  rw [← HHE.out, HW0.out]
  refine wp_region_lexA ⟨[], []⟩ (fun x => Below W0.heap.size W0 x) (by kernel_rfl) (by kernel_rfl) (Below.refl _ _).drew ?_
  intro S hto hof hne
  have yX0 : ∀ z : Wd S, z.w.cell? ⟨hE, 0, none⟩ = some (.int .i64 kd) := fun z => X0.out z.w (HB.out.trans ((hto z).mono HB.out.size))
  have yX1 : ∀ z : Wd S, z.w.cell? ⟨hE, 1, none⟩ = some (.int .i64 co) := fun z => X1.out z.w (HB.out.trans ((hto z).mono HB.out.size))
  have yC0 : ∀ z : Wd S, z.w.cell? ⟨b, 0, none⟩ = some (.slice aB B.length kB) := fun z => C0.out z.w (HB.out.trans ((hto z).mono HB.out.size))
  have Hof := Lib.hid hof
  clear hto hof
  refine lexW_light 23 (by kernel_rfl) ?_
  simp only [List.take_succ_cons, List.take_zero, List.drop_succ_cons, List.drop_zero]
  repeat (first | go_big_quiet_skip | (go_big_quiet_want; go_big_quiet_op; go_big_quiet_on))
  refine wpQuiet_nil ?_
  refine lexW_done ?_
  clear yX0 yX1 yC0
  have HB := Lib.hid (HB.out.trans ((Below.refl W0.heap.size W0).drew.mono HB.out.size))
  generalize W0.drew = W1 at *
  go_wp2_with fail
  go_ret
  exact ⟨rfl, HB0.out.trans (HB.out.mono HB0.out.size)⟩

set_option maxRecDepth 100000 in
set_option maxHeartbeats 4000000 in
theorem rarg3 (lo b : Nat) (vB vM : Value) (vs : List Value) (B : Bufs) (M : List Int) (k : Nat) (kd ad : Int) (va ne : Int) (dn : Bool) (w : World) (h : MdAt tyR w lo b vB vM vs B M) (hk : k < B.length) (hkd : kd < 1) :
    Calls Tryd.prog 21 #[.pointer (some ⟨b, 0, none⟩), .agg #[.int .i64 kd, .int .i64 (k : Int), .int .i64 ad, .int .u32 va, .int .u32 ne, .bool dn]] w fun ev w' => ev = .returned (.int .i64 1) ∧ Below w.heap.size w w' := by
  have g1 : decide ((k : Int) < 0) = false := by simp
  have g2 : decide ((k : Int) ≥ (B.length : Int)) = false := by simp; omega
  have g3 : decide (B.length ≤ k) = false := by simp; omega
  have g4 : decide (kd < 1) = true := by simpa using hkd
  clear hkd
  obtain ⟨gB, oB, kB, sd, cp, rfl, hvk, e0, z0, hrow⟩ := h.buf hk
  obtain ⟨aM, kM, rfl⟩ := h.rowM.len
  have hX := heap_alloc_new w (.cells #[.int .i64 kd, .int .i64 (k : Int), .int .i64 ad, .int .u32 va, .int .u32 ne, .bool dn] 24)
  have hb0 : Below w.heap.size w (w.alloc (.cells #[.int .i64 kd, .int .i64 (k : Int), .int .i64 ad, .int .u32 va, .int .u32 ne, .bool dn] 24)) := (Below.refl _ _).alloc (Nat.le_refl _) _
  have HB0 := Lib.hid hb0
  have hh := h.below hb0
  have hbl := (hh.lt b (.inl rfl)).2
  obtain ⟨hE, hhE⟩ : ∃ hE, hE = w.heap.size := ⟨_, rfl⟩
  rw [← hhE] at hX
  generalize hW0 : w.alloc (.cells #[.int .i64 kd, .int .i64 (k : Int), .int .i64 ad, .int .u32 va, .int .u32 ne, .bool dn] 24) = W0 at *
  have HW0 := Lib.hid hW0
  have HHE := Lib.hid hhE
  have hxl := (Array.getElem?_eq_some_iff.1 hX).1
  have X0 := Lib.hid (show ∀ W, Below W0.heap.size W0 W → W.cell? ⟨hE, 0, none⟩ = some (.int .i64 kd) from fun W hb => (hb.cell (p := ⟨hE, 0, none⟩) hxl).trans (cell_of hX 0))
  have X1 := Lib.hid (show ∀ W, Below W0.heap.size W0 W → W.cell? ⟨hE, 1, none⟩ = some (.int .i64 (k : Int)) from fun W hb => (hb.cell (p := ⟨hE, 1, none⟩) hxl).trans (cell_of hX 1))
  have X2 := Lib.hid (show ∀ W, Below W0.heap.size W0 W → W.cell? ⟨hE, 2, none⟩ = some (.int .i64 ad) from fun W hb => (hb.cell (p := ⟨hE, 2, none⟩) hxl).trans (cell_of hX 2))
  have X3 := Lib.hid (show ∀ W, Below W0.heap.size W0 W → W.cell? ⟨hE, 3, none⟩ = some (.int .u32 va) from fun W hb => (hb.cell (p := ⟨hE, 3, none⟩) hxl).trans (cell_of hX 3))
  have X4 := Lib.hid (show ∀ W, Below W0.heap.size W0 W → W.cell? ⟨hE, 4, none⟩ = some (.int .u32 ne) from fun W hb => (hb.cell (p := ⟨hE, 4, none⟩) hxl).trans (cell_of hX 4))
  have X5 := Lib.hid (show ∀ W, Below W0.heap.size W0 W → W.cell? ⟨hE, 5, none⟩ = some (.bool dn) from fun W hb => (hb.cell (p := ⟨hE, 5, none⟩) hxl).trans (cell_of hX 5))
  have C0 := Lib.hid (show ∀ W, Below W0.heap.size W0 W → W.cell? ⟨b, 0, none⟩ = some (.slice (some ⟨gB, oB, none⟩) B.length kB) from fun W hb => (hb.cell (p := ⟨b, 0, none⟩) hbl).trans (cell_of hh.blk 0))
  have C1 := Lib.hid (show ∀ W, Below W0.heap.size W0 W → W.cell? ⟨b, 1, none⟩ = some (.slice aM M.length kM) from fun W hb => (hb.cell (p := ⟨b, 1, none⟩) hbl).trans (cell_of hh.blk 1))
  have hgB := (h.lt gB (.inr (.inl rfl))).2
  have E0 := Lib.hid (show ∀ W, Below W0.heap.size W0 W → W.cell? ⟨gB, oB + k, none⟩ = some (.slice sd (B.getD k []).length cp) from fun W hb => (hb.cell (p := ⟨gB, oB + k, none⟩) (Nat.lt_of_lt_of_le hgB HB0.out.size)).trans ((HB0.out.cell (p := ⟨gB, oB + k, none⟩) hgB).trans e0))
  have Z0 := Lib.hid (show ∀ W, Below W0.heap.size W0 W → W.frozen? ⟨gB, oB + k, none⟩ = false from fun W hb => (World.frozen?_of_block (a := ⟨gB, oB + k, none⟩) ((hb.block gB (Nat.lt_of_lt_of_le hgB HB0.out.size)).trans (HB0.out.block gB hgB))).trans z0)
  have ROW := Lib.hid (show ∀ W, Below W0.heap.size W0 W → winRow W lo 87 2 (.slice sd (B.getD k []).length cp) (B.getD k []).length (flatW (B.getD k [])) from fun W hb => (hrow.below HB0.out).below hb)
  have HVK := Lib.hid hvk
  have HGB := Lib.hid hgB
  have hkl : (k : Int) < B.length := by omega
  have HKK := Lib.hid hk
  clear e0 z0 hrow hvk hk hgB
  have HH := Lib.hid hh
  have HIN := Lib.hid h
  have HB := Lib.hid (Below.refl W0.heap.size W0)
  clear hX hb0 hh hbl hxl h hW0 hhE
  go_enter Tryd.func21, Tryd.ntmps21
  go_wp2_with fail
  rw [← HHE.out, HW0.out]
  refine wp_region_lexA ⟨[], []⟩ (fun x => Below W0.heap.size W0 x) (by kernel_rfl) (by kernel_rfl) (Below.refl _ _).drew ?_
  intro S hto hof hne
  have yX0 : ∀ z : Wd S, z.w.cell? ⟨hE, 0, none⟩ = some (.int .i64 kd) := fun z => X0.out z.w (HB.out.trans ((hto z).mono HB.out.size))
  have yX1 : ∀ z : Wd S, z.w.cell? ⟨hE, 1, none⟩ = some (.int .i64 (k : Int)) := fun z => X1.out z.w (HB.out.trans ((hto z).mono HB.out.size))
  have yC0 : ∀ z : Wd S, z.w.cell? ⟨b, 0, none⟩ = some (.slice (some ⟨gB, oB, none⟩) B.length kB) := fun z => C0.out z.w (HB.out.trans ((hto z).mono HB.out.size))
  have Hof := Lib.hid hof
  clear hto hof
  refine lexW_light 23 (by kernel_rfl) ?_
  simp only [List.take_succ_cons, List.take_zero, List.drop_succ_cons, List.drop_zero]
  repeat (first | go_big_quiet_skip | (go_big_quiet_want; go_big_quiet_op; go_big_quiet_on))
  refine wpQuiet_nil ?_
  refine lexW_done ?_
  clear yX0 yX1 yC0
  have HB := Lib.hid (HB.out.trans ((Below.refl W0.heap.size W0).drew.mono HB.out.size))
  generalize W0.drew = W1 at *
  go_wp2_with fail
  go_ret
  exact ⟨rfl, HB0.out.trans (HB.out.mono HB0.out.size)⟩

set_option maxRecDepth 100000 in
set_option maxHeartbeats 4000000 in
theorem rarg4 (lo b : Nat) (vB vM : Value) (vs : List Value) (B : Bufs) (M : List Int) (k : Nat) (kd ad : Int) (va ne : Int) (dn : Bool) (w : World) (h : MdAt tyR w lo b vB vM vs B M) (hk : k < B.length) (hkd : 1 ≤ kd) (hkd2 : 5 < kd) :
    Calls Tryd.prog 21 #[.pointer (some ⟨b, 0, none⟩), .agg #[.int .i64 kd, .int .i64 (k : Int), .int .i64 ad, .int .u32 va, .int .u32 ne, .bool dn]] w fun ev w' => ev = .returned (.int .i64 1) ∧ Below w.heap.size w w' := by
  have g1 : decide ((k : Int) < 0) = false := by simp
  have g2 : decide ((k : Int) ≥ (B.length : Int)) = false := by simp; omega
  have g3 : decide (B.length ≤ k) = false := by simp; omega
  have g4 : decide (kd < 1) = false := by simpa using hkd
  have g5 : decide (kd > 5) = true := by simpa using hkd2
  clear hkd hkd2
  obtain ⟨gB, oB, kB, sd, cp, rfl, hvk, e0, z0, hrow⟩ := h.buf hk
  obtain ⟨aM, kM, rfl⟩ := h.rowM.len
  have hX := heap_alloc_new w (.cells #[.int .i64 kd, .int .i64 (k : Int), .int .i64 ad, .int .u32 va, .int .u32 ne, .bool dn] 24)
  have hb0 : Below w.heap.size w (w.alloc (.cells #[.int .i64 kd, .int .i64 (k : Int), .int .i64 ad, .int .u32 va, .int .u32 ne, .bool dn] 24)) := (Below.refl _ _).alloc (Nat.le_refl _) _
  have HB0 := Lib.hid hb0
  have hh := h.below hb0
  have hbl := (hh.lt b (.inl rfl)).2
  obtain ⟨hE, hhE⟩ : ∃ hE, hE = w.heap.size := ⟨_, rfl⟩
  rw [← hhE] at hX
  generalize hW0 : w.alloc (.cells #[.int .i64 kd, .int .i64 (k : Int), .int .i64 ad, .int .u32 va, .int .u32 ne, .bool dn] 24) = W0 at *
  have HW0 := Lib.hid hW0
  have HHE := Lib.hid hhE
  have hxl := (Array.getElem?_eq_some_iff.1 hX).1
  have X0 := Lib.hid (show ∀ W, Below W0.heap.size W0 W → W.cell? ⟨hE, 0, none⟩ = some (.int .i64 kd) from fun W hb => (hb.cell (p := ⟨hE, 0, none⟩) hxl).trans (cell_of hX 0))
  have X1 := Lib.hid (show ∀ W, Below W0.heap.size W0 W → W.cell? ⟨hE, 1, none⟩ = some (.int .i64 (k : Int)) from fun W hb => (hb.cell (p := ⟨hE, 1, none⟩) hxl).trans (cell_of hX 1))
  have X2 := Lib.hid (show ∀ W, Below W0.heap.size W0 W → W.cell? ⟨hE, 2, none⟩ = some (.int .i64 ad) from fun W hb => (hb.cell (p := ⟨hE, 2, none⟩) hxl).trans (cell_of hX 2))
  have X3 := Lib.hid (show ∀ W, Below W0.heap.size W0 W → W.cell? ⟨hE, 3, none⟩ = some (.int .u32 va) from fun W hb => (hb.cell (p := ⟨hE, 3, none⟩) hxl).trans (cell_of hX 3))
  have X4 := Lib.hid (show ∀ W, Below W0.heap.size W0 W → W.cell? ⟨hE, 4, none⟩ = some (.int .u32 ne) from fun W hb => (hb.cell (p := ⟨hE, 4, none⟩) hxl).trans (cell_of hX 4))
  have X5 := Lib.hid (show ∀ W, Below W0.heap.size W0 W → W.cell? ⟨hE, 5, none⟩ = some (.bool dn) from fun W hb => (hb.cell (p := ⟨hE, 5, none⟩) hxl).trans (cell_of hX 5))
  have C0 := Lib.hid (show ∀ W, Below W0.heap.size W0 W → W.cell? ⟨b, 0, none⟩ = some (.slice (some ⟨gB, oB, none⟩) B.length kB) from fun W hb => (hb.cell (p := ⟨b, 0, none⟩) hbl).trans (cell_of hh.blk 0))
  have C1 := Lib.hid (show ∀ W, Below W0.heap.size W0 W → W.cell? ⟨b, 1, none⟩ = some (.slice aM M.length kM) from fun W hb => (hb.cell (p := ⟨b, 1, none⟩) hbl).trans (cell_of hh.blk 1))
  have hgB := (h.lt gB (.inr (.inl rfl))).2
  have E0 := Lib.hid (show ∀ W, Below W0.heap.size W0 W → W.cell? ⟨gB, oB + k, none⟩ = some (.slice sd (B.getD k []).length cp) from fun W hb => (hb.cell (p := ⟨gB, oB + k, none⟩) (Nat.lt_of_lt_of_le hgB HB0.out.size)).trans ((HB0.out.cell (p := ⟨gB, oB + k, none⟩) hgB).trans e0))
  have Z0 := Lib.hid (show ∀ W, Below W0.heap.size W0 W → W.frozen? ⟨gB, oB + k, none⟩ = false from fun W hb => (World.frozen?_of_block (a := ⟨gB, oB + k, none⟩) ((hb.block gB (Nat.lt_of_lt_of_le hgB HB0.out.size)).trans (HB0.out.block gB hgB))).trans z0)
  have ROW := Lib.hid (show ∀ W, Below W0.heap.size W0 W → winRow W lo 87 2 (.slice sd (B.getD k []).length cp) (B.getD k []).length (flatW (B.getD k [])) from fun W hb => (hrow.below HB0.out).below hb)
  have HVK := Lib.hid hvk
  have HGB := Lib.hid hgB
  have hkl : (k : Int) < B.length := by omega
  have HKK := Lib.hid hk
  clear e0 z0 hrow hvk hk hgB
  have HH := Lib.hid hh
  have HIN := Lib.hid h
  have HB := Lib.hid (Below.refl W0.heap.size W0)
  clear hX hb0 hh hbl hxl h hW0 hhE
  go_enter Tryd.func21, Tryd.ntmps21
  go_wp2_with fail
  rw [← HHE.out, HW0.out]
  refine wp_region_lexA ⟨[], []⟩ (fun x => Below W0.heap.size W0 x) (by kernel_rfl) (by kernel_rfl) (Below.refl _ _).drew ?_
  intro S hto hof hne
  have yX0 : ∀ z : Wd S, z.w.cell? ⟨hE, 0, none⟩ = some (.int .i64 kd) := fun z => X0.out z.w (HB.out.trans ((hto z).mono HB.out.size))
  have yX1 : ∀ z : Wd S, z.w.cell? ⟨hE, 1, none⟩ = some (.int .i64 (k : Int)) := fun z => X1.out z.w (HB.out.trans ((hto z).mono HB.out.size))
  have yC0 : ∀ z : Wd S, z.w.cell? ⟨b, 0, none⟩ = some (.slice (some ⟨gB, oB, none⟩) B.length kB) := fun z => C0.out z.w (HB.out.trans ((hto z).mono HB.out.size))
  have Hof := Lib.hid hof
  clear hto hof
  refine lexW_light 23 (by kernel_rfl) ?_
  simp only [List.take_succ_cons, List.take_zero, List.drop_succ_cons, List.drop_zero]
  repeat (first | go_big_quiet_skip | (go_big_quiet_want; go_big_quiet_op; go_big_quiet_on))
  refine wpQuiet_nil ?_
  refine lexW_done ?_
  clear yX0 yX1 yC0
  have HB := Lib.hid (HB.out.trans ((Below.refl W0.heap.size W0).drew.mono HB.out.size))
  generalize W0.drew = W1 at *
  go_wp2_with fail
  go_ret
  exact ⟨rfl, HB0.out.trans (HB.out.mono HB0.out.size)⟩

set_option maxRecDepth 100000 in
set_option maxHeartbeats 4000000 in
theorem rarg5 (lo b : Nat) (vB vM : Value) (vs : List Value) (B : Bufs) (M : List Int) (k : Nat) (kd ad : Int) (va ne : Int) (dn : Bool) (w : World) (h : MdAt tyR w lo b vB vM vs B M) (hk : k < B.length) (hkd : 1 ≤ kd) (hkd2 : kd ≤ 5) (hkd3 : kd ≠ 5) (had : ad < 0) :
    Calls Tryd.prog 21 #[.pointer (some ⟨b, 0, none⟩), .agg #[.int .i64 kd, .int .i64 (k : Int), .int .i64 ad, .int .u32 va, .int .u32 ne, .bool dn]] w fun ev w' => ev = .returned (.int .i64 1) ∧ Below w.heap.size w w' := by
  have g1 : decide ((k : Int) < 0) = false := by simp
  have g2 : decide ((k : Int) ≥ (B.length : Int)) = false := by simp; omega
  have g3 : decide (B.length ≤ k) = false := by simp; omega
  have g4 : decide (kd < 1) = false := by simpa using hkd
  have g5 : decide (kd > 5) = false := by simpa using hkd2
  have g6 : (kd != 5) = true := by simpa using hkd3
  have g7 : decide (ad < 0) = true := by simpa using had
  clear hkd hkd2 hkd3 had
  obtain ⟨gB, oB, kB, sd, cp, rfl, hvk, e0, z0, hrow⟩ := h.buf hk
  obtain ⟨aM, kM, rfl⟩ := h.rowM.len
  have hX := heap_alloc_new w (.cells #[.int .i64 kd, .int .i64 (k : Int), .int .i64 ad, .int .u32 va, .int .u32 ne, .bool dn] 24)
  have hb0 : Below w.heap.size w (w.alloc (.cells #[.int .i64 kd, .int .i64 (k : Int), .int .i64 ad, .int .u32 va, .int .u32 ne, .bool dn] 24)) := (Below.refl _ _).alloc (Nat.le_refl _) _
  have HB0 := Lib.hid hb0
  have hh := h.below hb0
  have hbl := (hh.lt b (.inl rfl)).2
  obtain ⟨hE, hhE⟩ : ∃ hE, hE = w.heap.size := ⟨_, rfl⟩
  rw [← hhE] at hX
  generalize hW0 : w.alloc (.cells #[.int .i64 kd, .int .i64 (k : Int), .int .i64 ad, .int .u32 va, .int .u32 ne, .bool dn] 24) = W0 at *
  have HW0 := Lib.hid hW0
  have HHE := Lib.hid hhE
  have hxl := (Array.getElem?_eq_some_iff.1 hX).1
  have X0 := Lib.hid (show ∀ W, Below W0.heap.size W0 W → W.cell? ⟨hE, 0, none⟩ = some (.int .i64 kd) from fun W hb => (hb.cell (p := ⟨hE, 0, none⟩) hxl).trans (cell_of hX 0))
  have X1 := Lib.hid (show ∀ W, Below W0.heap.size W0 W → W.cell? ⟨hE, 1, none⟩ = some (.int .i64 (k : Int)) from fun W hb => (hb.cell (p := ⟨hE, 1, none⟩) hxl).trans (cell_of hX 1))
  have X2 := Lib.hid (show ∀ W, Below W0.heap.size W0 W → W.cell? ⟨hE, 2, none⟩ = some (.int .i64 ad) from fun W hb => (hb.cell (p := ⟨hE, 2, none⟩) hxl).trans (cell_of hX 2))
  have X3 := Lib.hid (show ∀ W, Below W0.heap.size W0 W → W.cell? ⟨hE, 3, none⟩ = some (.int .u32 va) from fun W hb => (hb.cell (p := ⟨hE, 3, none⟩) hxl).trans (cell_of hX 3))
  have X4 := Lib.hid (show ∀ W, Below W0.heap.size W0 W → W.cell? ⟨hE, 4, none⟩ = some (.int .u32 ne) from fun W hb => (hb.cell (p := ⟨hE, 4, none⟩) hxl).trans (cell_of hX 4))
  have X5 := Lib.hid (show ∀ W, Below W0.heap.size W0 W → W.cell? ⟨hE, 5, none⟩ = some (.bool dn) from fun W hb => (hb.cell (p := ⟨hE, 5, none⟩) hxl).trans (cell_of hX 5))
  have C0 := Lib.hid (show ∀ W, Below W0.heap.size W0 W → W.cell? ⟨b, 0, none⟩ = some (.slice (some ⟨gB, oB, none⟩) B.length kB) from fun W hb => (hb.cell (p := ⟨b, 0, none⟩) hbl).trans (cell_of hh.blk 0))
  have C1 := Lib.hid (show ∀ W, Below W0.heap.size W0 W → W.cell? ⟨b, 1, none⟩ = some (.slice aM M.length kM) from fun W hb => (hb.cell (p := ⟨b, 1, none⟩) hbl).trans (cell_of hh.blk 1))
  have hgB := (h.lt gB (.inr (.inl rfl))).2
  have E0 := Lib.hid (show ∀ W, Below W0.heap.size W0 W → W.cell? ⟨gB, oB + k, none⟩ = some (.slice sd (B.getD k []).length cp) from fun W hb => (hb.cell (p := ⟨gB, oB + k, none⟩) (Nat.lt_of_lt_of_le hgB HB0.out.size)).trans ((HB0.out.cell (p := ⟨gB, oB + k, none⟩) hgB).trans e0))
  have Z0 := Lib.hid (show ∀ W, Below W0.heap.size W0 W → W.frozen? ⟨gB, oB + k, none⟩ = false from fun W hb => (World.frozen?_of_block (a := ⟨gB, oB + k, none⟩) ((hb.block gB (Nat.lt_of_lt_of_le hgB HB0.out.size)).trans (HB0.out.block gB hgB))).trans z0)
  have ROW := Lib.hid (show ∀ W, Below W0.heap.size W0 W → winRow W lo 87 2 (.slice sd (B.getD k []).length cp) (B.getD k []).length (flatW (B.getD k [])) from fun W hb => (hrow.below HB0.out).below hb)
  have HVK := Lib.hid hvk
  have HGB := Lib.hid hgB
  have hkl : (k : Int) < B.length := by omega
  have HKK := Lib.hid hk
  clear e0 z0 hrow hvk hk hgB
  have HH := Lib.hid hh
  have HIN := Lib.hid h
  have HB := Lib.hid (Below.refl W0.heap.size W0)
  clear hX hb0 hh hbl hxl h hW0 hhE
  go_enter Tryd.func21, Tryd.ntmps21
  go_wp2_with fail
  rw [← HHE.out, HW0.out]
  refine wp_region_lexA ⟨[], []⟩ (fun x => Below W0.heap.size W0 x) (by kernel_rfl) (by kernel_rfl) (Below.refl _ _).drew ?_
  intro S hto hof hne
  have yX0 : ∀ z : Wd S, z.w.cell? ⟨hE, 0, none⟩ = some (.int .i64 kd) := fun z => X0.out z.w (HB.out.trans ((hto z).mono HB.out.size))
  have yX1 : ∀ z : Wd S, z.w.cell? ⟨hE, 1, none⟩ = some (.int .i64 (k : Int)) := fun z => X1.out z.w (HB.out.trans ((hto z).mono HB.out.size))
  have yC0 : ∀ z : Wd S, z.w.cell? ⟨b, 0, none⟩ = some (.slice (some ⟨gB, oB, none⟩) B.length kB) := fun z => C0.out z.w (HB.out.trans ((hto z).mono HB.out.size))
  have Hof := Lib.hid hof
  clear hto hof
  refine lexW_light 23 (by kernel_rfl) ?_
  simp only [List.take_succ_cons, List.take_zero, List.drop_succ_cons, List.drop_zero]
  repeat (first | go_big_quiet_skip | (go_big_quiet_want; go_big_quiet_op; go_big_quiet_on))
  refine wpQuiet_nil ?_
  refine lexW_done ?_
  clear yX0 yX1 yC0
  have HB := Lib.hid (HB.out.trans ((Below.refl W0.heap.size W0).drew.mono HB.out.size))
  generalize W0.drew = W1 at *
  go_wp2_with fail
  refine wp_region_lexA ⟨[], []⟩ (fun x => Below W1.heap.size W1 x) (by kernel_rfl) (by kernel_rfl) (Below.refl _ _).drew ?_
  intro S hto hof hne
  have yX0 : ∀ z : Wd S, z.w.cell? ⟨hE, 0, none⟩ = some (.int .i64 kd) := fun z => X0.out z.w (HB.out.trans ((hto z).mono HB.out.size))
  have yX2 : ∀ z : Wd S, z.w.cell? ⟨hE, 2, none⟩ = some (.int .i64 ad) := fun z => X2.out z.w (HB.out.trans ((hto z).mono HB.out.size))
  have yC1 : ∀ z : Wd S, z.w.cell? ⟨b, 1, none⟩ = some (.slice aM M.length kM) := fun z => C1.out z.w (HB.out.trans ((hto z).mono HB.out.size))
  have Hof := Lib.hid hof
  clear hto hof
  refine lexW_light 18 (by kernel_rfl) ?_
  simp only [List.take_succ_cons, List.take_zero, List.drop_succ_cons, List.drop_zero]
  repeat (first | go_big_quiet_skip | (go_big_quiet_want; go_big_quiet_op; go_big_quiet_on))
  refine wpQuiet_nil ?_
  refine lexW_done ?_
  clear yX0 yX2 yC1
  have HB := Lib.hid (HB.out.trans ((Below.refl W1.heap.size W1).drew.mono HB.out.size))
  generalize W1.drew = W2 at *
  go_wp2_with fail
  go_ret
  exact ⟨rfl, HB0.out.trans (HB.out.mono HB0.out.size)⟩

set_option maxRecDepth 100000 in
set_option maxHeartbeats 4000000 in
theorem rarg6 (lo b : Nat) (vB vM : Value) (vs : List Value) (B : Bufs) (M : List Int) (k : Nat) (kd ad : Int) (va ne : Int) (dn : Bool) (w : World) (h : MdAt tyR w lo b vB vM vs B M) (hk : k < B.length) (hkd : 1 ≤ kd) (hkd2 : kd ≤ 5) (hkd3 : kd ≠ 5) (had : 0 ≤ ad) (had2 : (M.length : Int) ≤ ad) :
    Calls Tryd.prog 21 #[.pointer (some ⟨b, 0, none⟩), .agg #[.int .i64 kd, .int .i64 (k : Int), .int .i64 ad, .int .u32 va, .int .u32 ne, .bool dn]] w fun ev w' => ev = .returned (.int .i64 1) ∧ Below w.heap.size w w' := by
  have g1 : decide ((k : Int) < 0) = false := by simp
  have g2 : decide ((k : Int) ≥ (B.length : Int)) = false := by simp; omega
  have g3 : decide (B.length ≤ k) = false := by simp; omega
  have g4 : decide (kd < 1) = false := by simpa using hkd
  have g5 : decide (kd > 5) = false := by simpa using hkd2
  have g6 : (kd != 5) = true := by simpa using hkd3
  have g7 : decide (ad < 0) = false := by simpa using had
  have g8 : decide (ad ≥ (M.length : Int)) = true := by simpa using had2
  clear hkd hkd2 hkd3 had had2
  obtain ⟨gB, oB, kB, sd, cp, rfl, hvk, e0, z0, hrow⟩ := h.buf hk
  obtain ⟨aM, kM, rfl⟩ := h.rowM.len
  have hX := heap_alloc_new w (.cells #[.int .i64 kd, .int .i64 (k : Int), .int .i64 ad, .int .u32 va, .int .u32 ne, .bool dn] 24)
  have hb0 : Below w.heap.size w (w.alloc (.cells #[.int .i64 kd, .int .i64 (k : Int), .int .i64 ad, .int .u32 va, .int .u32 ne, .bool dn] 24)) := (Below.refl _ _).alloc (Nat.le_refl _) _
  have HB0 := Lib.hid hb0
  have hh := h.below hb0
  have hbl := (hh.lt b (.inl rfl)).2
  obtain ⟨hE, hhE⟩ : ∃ hE, hE = w.heap.size := ⟨_, rfl⟩
  rw [← hhE] at hX
  generalize hW0 : w.alloc (.cells #[.int .i64 kd, .int .i64 (k : Int), .int .i64 ad, .int .u32 va, .int .u32 ne, .bool dn] 24) = W0 at *
  have HW0 := Lib.hid hW0
  have HHE := Lib.hid hhE
  have hxl := (Array.getElem?_eq_some_iff.1 hX).1
  have X0 := Lib.hid (show ∀ W, Below W0.heap.size W0 W → W.cell? ⟨hE, 0, none⟩ = some (.int .i64 kd) from fun W hb => (hb.cell (p := ⟨hE, 0, none⟩) hxl).trans (cell_of hX 0))
  have X1 := Lib.hid (show ∀ W, Below W0.heap.size W0 W → W.cell? ⟨hE, 1, none⟩ = some (.int .i64 (k : Int)) from fun W hb => (hb.cell (p := ⟨hE, 1, none⟩) hxl).trans (cell_of hX 1))
  have X2 := Lib.hid (show ∀ W, Below W0.heap.size W0 W → W.cell? ⟨hE, 2, none⟩ = some (.int .i64 ad) from fun W hb => (hb.cell (p := ⟨hE, 2, none⟩) hxl).trans (cell_of hX 2))
  have X3 := Lib.hid (show ∀ W, Below W0.heap.size W0 W → W.cell? ⟨hE, 3, none⟩ = some (.int .u32 va) from fun W hb => (hb.cell (p := ⟨hE, 3, none⟩) hxl).trans (cell_of hX 3))
  have X4 := Lib.hid (show ∀ W, Below W0.heap.size W0 W → W.cell? ⟨hE, 4, none⟩ = some (.int .u32 ne) from fun W hb => (hb.cell (p := ⟨hE, 4, none⟩) hxl).trans (cell_of hX 4))
  have X5 := Lib.hid (show ∀ W, Below W0.heap.size W0 W → W.cell? ⟨hE, 5, none⟩ = some (.bool dn) from fun W hb => (hb.cell (p := ⟨hE, 5, none⟩) hxl).trans (cell_of hX 5))
  have C0 := Lib.hid (show ∀ W, Below W0.heap.size W0 W → W.cell? ⟨b, 0, none⟩ = some (.slice (some ⟨gB, oB, none⟩) B.length kB) from fun W hb => (hb.cell (p := ⟨b, 0, none⟩) hbl).trans (cell_of hh.blk 0))
  have C1 := Lib.hid (show ∀ W, Below W0.heap.size W0 W → W.cell? ⟨b, 1, none⟩ = some (.slice aM M.length kM) from fun W hb => (hb.cell (p := ⟨b, 1, none⟩) hbl).trans (cell_of hh.blk 1))
  have hgB := (h.lt gB (.inr (.inl rfl))).2
  have E0 := Lib.hid (show ∀ W, Below W0.heap.size W0 W → W.cell? ⟨gB, oB + k, none⟩ = some (.slice sd (B.getD k []).length cp) from fun W hb => (hb.cell (p := ⟨gB, oB + k, none⟩) (Nat.lt_of_lt_of_le hgB HB0.out.size)).trans ((HB0.out.cell (p := ⟨gB, oB + k, none⟩) hgB).trans e0))
  have Z0 := Lib.hid (show ∀ W, Below W0.heap.size W0 W → W.frozen? ⟨gB, oB + k, none⟩ = false from fun W hb => (World.frozen?_of_block (a := ⟨gB, oB + k, none⟩) ((hb.block gB (Nat.lt_of_lt_of_le hgB HB0.out.size)).trans (HB0.out.block gB hgB))).trans z0)
  have ROW := Lib.hid (show ∀ W, Below W0.heap.size W0 W → winRow W lo 87 2 (.slice sd (B.getD k []).length cp) (B.getD k []).length (flatW (B.getD k [])) from fun W hb => (hrow.below HB0.out).below hb)
  have HVK := Lib.hid hvk
  have HGB := Lib.hid hgB
  have hkl : (k : Int) < B.length := by omega
  have HKK := Lib.hid hk
  clear e0 z0 hrow hvk hk hgB
  have HH := Lib.hid hh
  have HIN := Lib.hid h
  have HB := Lib.hid (Below.refl W0.heap.size W0)
  clear hX hb0 hh hbl hxl h hW0 hhE
  go_enter Tryd.func21, Tryd.ntmps21
  go_wp2_with fail
  rw [← HHE.out, HW0.out]
  refine wp_region_lexA ⟨[], []⟩ (fun x => Below W0.heap.size W0 x) (by kernel_rfl) (by kernel_rfl) (Below.refl _ _).drew ?_
  intro S hto hof hne
  have yX0 : ∀ z : Wd S, z.w.cell? ⟨hE, 0, none⟩ = some (.int .i64 kd) := fun z => X0.out z.w (HB.out.trans ((hto z).mono HB.out.size))
  have yX1 : ∀ z : Wd S, z.w.cell? ⟨hE, 1, none⟩ = some (.int .i64 (k : Int)) := fun z => X1.out z.w (HB.out.trans ((hto z).mono HB.out.size))
  have yC0 : ∀ z : Wd S, z.w.cell? ⟨b, 0, none⟩ = some (.slice (some ⟨gB, oB, none⟩) B.length kB) := fun z => C0.out z.w (HB.out.trans ((hto z).mono HB.out.size))
  have Hof := Lib.hid hof
  clear hto hof
  refine lexW_light 23 (by kernel_rfl) ?_
  simp only [List.take_succ_cons, List.take_zero, List.drop_succ_cons, List.drop_zero]
  repeat (first | go_big_quiet_skip | (go_big_quiet_want; go_big_quiet_op; go_big_quiet_on))
  refine wpQuiet_nil ?_
  refine lexW_done ?_
  clear yX0 yX1 yC0
  have HB := Lib.hid (HB.out.trans ((Below.refl W0.heap.size W0).drew.mono HB.out.size))
  generalize W0.drew = W1 at *
  go_wp2_with fail
  refine wp_region_lexA ⟨[], []⟩ (fun x => Below W1.heap.size W1 x) (by kernel_rfl) (by kernel_rfl) (Below.refl _ _).drew ?_
  intro S hto hof hne
  have yX0 : ∀ z : Wd S, z.w.cell? ⟨hE, 0, none⟩ = some (.int .i64 kd) := fun z => X0.out z.w (HB.out.trans ((hto z).mono HB.out.size))
  have yX2 : ∀ z : Wd S, z.w.cell? ⟨hE, 2, none⟩ = some (.int .i64 ad) := fun z => X2.out z.w (HB.out.trans ((hto z).mono HB.out.size))
  have yC1 : ∀ z : Wd S, z.w.cell? ⟨b, 1, none⟩ = some (.slice aM M.length kM) := fun z => C1.out z.w (HB.out.trans ((hto z).mono HB.out.size))
  have Hof := Lib.hid hof
  clear hto hof
  refine lexW_light 18 (by kernel_rfl) ?_
  simp only [List.take_succ_cons, List.take_zero, List.drop_succ_cons, List.drop_zero]
  repeat (first | go_big_quiet_skip | (go_big_quiet_want; go_big_quiet_op; go_big_quiet_on))
  refine wpQuiet_nil ?_
  refine lexW_done ?_
  clear yX0 yX2 yC1
  have HB := Lib.hid (HB.out.trans ((Below.refl W1.heap.size W1).drew.mono HB.out.size))
  generalize W1.drew = W2 at *
  go_wp2_with fail
  go_ret
  exact ⟨rfl, HB0.out.trans (HB.out.mono HB0.out.size)⟩

set_option maxRecDepth 100000 in
set_option maxHeartbeats 4000000 in
theorem rload_ok (lo b : Nat) (vB vM : Value) (vs : List Value) (B : Bufs) (M : List Int) (k j : Nat) (va ne : Int) (dn : Bool) (w : World) (h : MdAt tyR w lo b vB vM vs B M) (hk : k < B.length) (hj : j < M.length) (hr : rdS B M k j = va) :
    Calls Tryd.prog 21 #[.pointer (some ⟨b, 0, none⟩), .agg #[.int .i64 1, .int .i64 (k : Int), .int .i64 (j : Int), .int .u32 va, .int .u32 ne, .bool dn]] w fun ev w' => ev = .returned (.int .i64 0) ∧ Below w.heap.size w w' := by
  have g1 : decide ((k : Int) < 0) = false := by simp
  have g2 : decide ((k : Int) ≥ (B.length : Int)) = false := by simp; omega
  have g3 : decide (B.length ≤ k) = false := by simp; omega
  have g7 : decide ((j : Int) < 0) = false := by simp
  have g8 : decide ((j : Int) ≥ (M.length : Int)) = false := by simp; omega
  have g9 : decide (M.length ≤ j) = false := by simp; omega
  have HRV := Lib.hid hr
  have gv : (va != va) = false := by simp
  clear hr
  obtain ⟨gB, oB, kB, sd, cp, rfl, hvk, e0, z0, hrow⟩ := h.buf hk
  obtain ⟨gM, oM, kM, rfl, e3, z3⟩ := h.mem hj
  have hX := heap_alloc_new w (.cells #[.int .i64 1, .int .i64 (k : Int), .int .i64 (j : Int), .int .u32 va, .int .u32 ne, .bool dn] 24)
  have hb0 : Below w.heap.size w (w.alloc (.cells #[.int .i64 1, .int .i64 (k : Int), .int .i64 (j : Int), .int .u32 va, .int .u32 ne, .bool dn] 24)) := (Below.refl _ _).alloc (Nat.le_refl _) _
  have HB0 := Lib.hid hb0
  have hh := h.below hb0
  have hbl := (hh.lt b (.inl rfl)).2
  obtain ⟨hE, hhE⟩ : ∃ hE, hE = w.heap.size := ⟨_, rfl⟩
  rw [← hhE] at hX
  generalize hW0 : w.alloc (.cells #[.int .i64 1, .int .i64 (k : Int), .int .i64 (j : Int), .int .u32 va, .int .u32 ne, .bool dn] 24) = W0 at *
  have HW0 := Lib.hid hW0
  have HHE := Lib.hid hhE
  have hxl := (Array.getElem?_eq_some_iff.1 hX).1
  have X0 := Lib.hid (show ∀ W, Below W0.heap.size W0 W → W.cell? ⟨hE, 0, none⟩ = some (.int .i64 1) from fun W hb => (hb.cell (p := ⟨hE, 0, none⟩) hxl).trans (cell_of hX 0))
  have X1 := Lib.hid (show ∀ W, Below W0.heap.size W0 W → W.cell? ⟨hE, 1, none⟩ = some (.int .i64 (k : Int)) from fun W hb => (hb.cell (p := ⟨hE, 1, none⟩) hxl).trans (cell_of hX 1))
  have X2 := Lib.hid (show ∀ W, Below W0.heap.size W0 W → W.cell? ⟨hE, 2, none⟩ = some (.int .i64 (j : Int)) from fun W hb => (hb.cell (p := ⟨hE, 2, none⟩) hxl).trans (cell_of hX 2))
  have X3 := Lib.hid (show ∀ W, Below W0.heap.size W0 W → W.cell? ⟨hE, 3, none⟩ = some (.int .u32 va) from fun W hb => (hb.cell (p := ⟨hE, 3, none⟩) hxl).trans (cell_of hX 3))
  have X4 := Lib.hid (show ∀ W, Below W0.heap.size W0 W → W.cell? ⟨hE, 4, none⟩ = some (.int .u32 ne) from fun W hb => (hb.cell (p := ⟨hE, 4, none⟩) hxl).trans (cell_of hX 4))
  have X5 := Lib.hid (show ∀ W, Below W0.heap.size W0 W → W.cell? ⟨hE, 5, none⟩ = some (.bool dn) from fun W hb => (hb.cell (p := ⟨hE, 5, none⟩) hxl).trans (cell_of hX 5))
  have C0 := Lib.hid (show ∀ W, Below W0.heap.size W0 W → W.cell? ⟨b, 0, none⟩ = some (.slice (some ⟨gB, oB, none⟩) B.length kB) from fun W hb => (hb.cell (p := ⟨b, 0, none⟩) hbl).trans (cell_of hh.blk 0))
  have C1 := Lib.hid (show ∀ W, Below W0.heap.size W0 W → W.cell? ⟨b, 1, none⟩ = some (.slice (some ⟨gM, oM, none⟩) M.length kM) from fun W hb => (hb.cell (p := ⟨b, 1, none⟩) hbl).trans (cell_of hh.blk 1))
  have hgB := (h.lt gB (.inr (.inl rfl))).2
  have E0 := Lib.hid (show ∀ W, Below W0.heap.size W0 W → W.cell? ⟨gB, oB + k, none⟩ = some (.slice sd (B.getD k []).length cp) from fun W hb => (hb.cell (p := ⟨gB, oB + k, none⟩) (Nat.lt_of_lt_of_le hgB HB0.out.size)).trans ((HB0.out.cell (p := ⟨gB, oB + k, none⟩) hgB).trans e0))
  have Z0 := Lib.hid (show ∀ W, Below W0.heap.size W0 W → W.frozen? ⟨gB, oB + k, none⟩ = false from fun W hb => (World.frozen?_of_block (a := ⟨gB, oB + k, none⟩) ((hb.block gB (Nat.lt_of_lt_of_le hgB HB0.out.size)).trans (HB0.out.block gB hgB))).trans z0)
  have ROW := Lib.hid (show ∀ W, Below W0.heap.size W0 W → winRow W lo 87 2 (.slice sd (B.getD k []).length cp) (B.getD k []).length (flatW (B.getD k [])) from fun W hb => (hrow.below HB0.out).below hb)
  have HVK := Lib.hid hvk
  have HGB := Lib.hid hgB
  have hkl : (k : Int) < B.length := by omega
  have HKK := Lib.hid hk
  clear e0 z0 hrow hvk hk hgB
  have hgM := (h.lt gM (.inr (.inr (.inl rfl)))).2
  have E3 := Lib.hid (show ∀ W, Below W0.heap.size W0 W → W.cell? ⟨gM, oM + j, none⟩ = some (.int .u32 (M.getD j 0)) from fun W hb => (hb.cell (p := ⟨gM, oM + j, none⟩) (Nat.lt_of_lt_of_le hgM HB0.out.size)).trans ((HB0.out.cell (p := ⟨gM, oM + j, none⟩) hgM).trans e3))
  have Z3 := Lib.hid (show ∀ W, Below W0.heap.size W0 W → W.frozen? ⟨gM, oM + j, none⟩ = false from fun W hb => (World.frozen?_of_block (a := ⟨gM, oM + j, none⟩) ((hb.block gM (Nat.lt_of_lt_of_le hgM HB0.out.size)).trans (HB0.out.block gM hgM))).trans z3)
  have HGM := Lib.hid hgM
  have hjl : (j : Int) < M.length := by omega
  have HJJ := Lib.hid hj
  clear e3 z3 hj hgM
  have HH := Lib.hid hh
  have HIN := Lib.hid h
  have HB := Lib.hid (Below.refl W0.heap.size W0)
  clear hX hb0 hh hbl hxl h hW0 hhE
  go_enter Tryd.func21, Tryd.ntmps21
  go_wp2_with fail
  rw [← HHE.out, HW0.out]
  refine wp_region_lexA ⟨[], []⟩ (fun x => Below W0.heap.size W0 x) (by kernel_rfl) (by kernel_rfl) (Below.refl _ _).drew ?_
  intro S hto hof hne
  have yX0 : ∀ z : Wd S, z.w.cell? ⟨hE, 0, none⟩ = some (.int .i64 1) := fun z => X0.out z.w (HB.out.trans ((hto z).mono HB.out.size))
  have yX1 : ∀ z : Wd S, z.w.cell? ⟨hE, 1, none⟩ = some (.int .i64 (k : Int)) := fun z => X1.out z.w (HB.out.trans ((hto z).mono HB.out.size))
  have yC0 : ∀ z : Wd S, z.w.cell? ⟨b, 0, none⟩ = some (.slice (some ⟨gB, oB, none⟩) B.length kB) := fun z => C0.out z.w (HB.out.trans ((hto z).mono HB.out.size))
  have Hof := Lib.hid hof
  clear hto hof
  refine lexW_light 23 (by kernel_rfl) ?_
  simp only [List.take_succ_cons, List.take_zero, List.drop_succ_cons, List.drop_zero]
  repeat (first | go_big_quiet_skip | (go_big_quiet_want; go_big_quiet_op; go_big_quiet_on))
  refine wpQuiet_nil ?_
  refine lexW_done ?_
  clear yX0 yX1 yC0
  have HB := Lib.hid (HB.out.trans ((Below.refl W0.heap.size W0).drew.mono HB.out.size))
  generalize W0.drew = W1 at *
  go_wp2_with fail
  refine wp_region_lexA ⟨[], []⟩ (fun x => Below W1.heap.size W1 x) (by kernel_rfl) (by kernel_rfl) (Below.refl _ _).drew ?_
  intro S hto hof hne
  have yX0 : ∀ z : Wd S, z.w.cell? ⟨hE, 0, none⟩ = some (.int .i64 1) := fun z => X0.out z.w (HB.out.trans ((hto z).mono HB.out.size))
  have yX2 : ∀ z : Wd S, z.w.cell? ⟨hE, 2, none⟩ = some (.int .i64 (j : Int)) := fun z => X2.out z.w (HB.out.trans ((hto z).mono HB.out.size))
  have yC1 : ∀ z : Wd S, z.w.cell? ⟨b, 1, none⟩ = some (.slice (some ⟨gM, oM, none⟩) M.length kM) := fun z => C1.out z.w (HB.out.trans ((hto z).mono HB.out.size))
  have Hof := Lib.hid hof
  clear hto hof
  refine lexW_light 18 (by kernel_rfl) ?_
  simp only [List.take_succ_cons, List.take_zero, List.drop_succ_cons, List.drop_zero]
  repeat (first | go_big_quiet_skip | (go_big_quiet_want; go_big_quiet_op; go_big_quiet_on))
  refine wpQuiet_nil ?_
  refine lexW_done ?_
  clear yX0 yX2 yC1
  have HB := Lib.hid (HB.out.trans ((Below.refl W1.heap.size W1).drew.mono HB.out.size))
  generalize W1.drew = W2 at *
  go_wp2_with fail
  refine wp_region_lexA ⟨[], []⟩ (fun x => Below W2.heap.size W2 x) (by kernel_rfl) (by kernel_rfl) (Below.refl _ _).drew ?_
  intro S hto hof hne
  have yC0 : ∀ z : Wd S, z.w.cell? ⟨b, 0, none⟩ = some (.slice (some ⟨gB, oB, none⟩) B.length kB) := fun z => C0.out z.w (HB.out.trans ((hto z).mono HB.out.size))
  have yX1 : ∀ z : Wd S, z.w.cell? ⟨hE, 1, none⟩ = some (.int .i64 (k : Int)) := fun z => X1.out z.w (HB.out.trans ((hto z).mono HB.out.size))
  have yE0 : ∀ z : Wd S, z.w.cell? ⟨gB, oB + k, none⟩ = some (.slice sd (B.getD k []).length cp) := fun z => E0.out z.w (HB.out.trans ((hto z).mono HB.out.size))
  have Hof := Lib.hid hof
  clear hto hof
  refine lexW_light 9 (by kernel_rfl) ?_
  simp only [List.take_succ_cons, List.take_zero, List.drop_succ_cons, List.drop_zero]
  repeat (first | go_big_quiet_skip | (go_big_quiet_want; go_big_quiet_op; go_big_quiet_on))
  refine wpQuiet_nil ?_
  refine lexW_done ?_
  clear yC0 yX1 yE0
  have HB := Lib.hid (HB.out.trans ((Below.refl W2.heap.size W2).drew.mono HB.out.size))
  generalize W2.drew = W3 at *
  have qX0 := X0.out _ HB.out
  go_wp2_with fail
  clear qX0
  refine wp_region_lexA ⟨[31], []⟩ (fun x => Below W3.heap.size W3 x) (by kernel_rfl) (by kernel_rfl) (Below.refl _ _).drew ?_
  intro S hto hof hne
  have yX1 : ∀ z : Wd S, z.w.cell? ⟨hE, 1, none⟩ = some (.int .i64 (k : Int)) := fun z => X1.out z.w (HB.out.trans ((hto z).mono HB.out.size))
  have yX2 : ∀ z : Wd S, z.w.cell? ⟨hE, 2, none⟩ = some (.int .i64 (j : Int)) := fun z => X2.out z.w (HB.out.trans ((hto z).mono HB.out.size))
  have yX3 : ∀ z : Wd S, z.w.cell? ⟨hE, 3, none⟩ = some (.int .u32 va) := fun z => X3.out z.w (HB.out.trans ((hto z).mono HB.out.size))
  have HT := Lib.hid (fun z : Wd S => HH.out.below (HB.out.trans ((hto z).mono HB.out.size)))
  have Hof := Lib.hid hof
  clear hto hof
  refine lexW_light 5 (by kernel_rfl) ?_
  simp only [List.take_succ_cons, List.take_zero, List.drop_succ_cons, List.drop_zero]
  repeat (first | go_big_quiet_skip | (go_big_quiet_want; go_big_quiet_op; go_big_quiet_on))
  refine wpQuiet_nil ?_
  refine lexW_pure (by kernel_rfl) (by rfl) rfl Tryd.func31 rfl (by kernel_rfl) (fun x => rread_ok lo b _ _ vs B M k j x.w (HT.out x) HKK.out HJJ.out) (by go_simp) ?_
  simp only [Act.put, List.setIfInBounds_toArray, List.set_cons_zero, List.set_cons_succ]
  rw [HRV.out]
  refine lexW_light 3 (by kernel_rfl) ?_
  simp only [List.take_succ_cons, List.take_zero, List.drop_succ_cons, List.drop_zero]
  repeat (first | go_big_quiet_skip | (go_big_quiet_want; go_big_quiet_op; go_big_quiet_on))
  refine wpQuiet_nil ?_
  refine lexW_done ?_
  clear yX1 yX2 yX3 HT
  have HB := Lib.hid (HB.out.trans ((Below.refl W3.heap.size W3).drew.mono HB.out.size))
  generalize W3.drew = W4 at *
  go_wp2_with fail
  go_ret
  exact ⟨rfl, HB0.out.trans (HB.out.mono HB0.out.size)⟩

set_option maxRecDepth 100000 in
set_option maxHeartbeats 4000000 in
theorem rload_no (lo b : Nat) (vB vM : Value) (vs : List Value) (B : Bufs) (M : List Int) (k j : Nat) (rv : Int) (va ne : Int) (dn : Bool) (w : World) (h : MdAt tyR w lo b vB vM vs B M) (hk : k < B.length) (hj : j < M.length) (hr : rdS B M k j = rv) (hrn : rv ≠ va) :
    Calls Tryd.prog 21 #[.pointer (some ⟨b, 0, none⟩), .agg #[.int .i64 1, .int .i64 (k : Int), .int .i64 (j : Int), .int .u32 va, .int .u32 ne, .bool dn]] w fun ev w' => ev = .returned (.int .i64 10) ∧ Below w.heap.size w w' := by
  have g1 : decide ((k : Int) < 0) = false := by simp
  have g2 : decide ((k : Int) ≥ (B.length : Int)) = false := by simp; omega
  have g3 : decide (B.length ≤ k) = false := by simp; omega
  have g7 : decide ((j : Int) < 0) = false := by simp
  have g8 : decide ((j : Int) ≥ (M.length : Int)) = false := by simp; omega
  have g9 : decide (M.length ≤ j) = false := by simp; omega
  have HRV := Lib.hid hr
  have gv : (rv != va) = true := by simpa using hrn
  clear hr hrn
  obtain ⟨gB, oB, kB, sd, cp, rfl, hvk, e0, z0, hrow⟩ := h.buf hk
  obtain ⟨gM, oM, kM, rfl, e3, z3⟩ := h.mem hj
  have hX := heap_alloc_new w (.cells #[.int .i64 1, .int .i64 (k : Int), .int .i64 (j : Int), .int .u32 va, .int .u32 ne, .bool dn] 24)
  have hb0 : Below w.heap.size w (w.alloc (.cells #[.int .i64 1, .int .i64 (k : Int), .int .i64 (j : Int), .int .u32 va, .int .u32 ne, .bool dn] 24)) := (Below.refl _ _).alloc (Nat.le_refl _) _
  have HB0 := Lib.hid hb0
  have hh := h.below hb0
  have hbl := (hh.lt b (.inl rfl)).2
  obtain ⟨hE, hhE⟩ : ∃ hE, hE = w.heap.size := ⟨_, rfl⟩
  rw [← hhE] at hX
  generalize hW0 : w.alloc (.cells #[.int .i64 1, .int .i64 (k : Int), .int .i64 (j : Int), .int .u32 va, .int .u32 ne, .bool dn] 24) = W0 at *
  have HW0 := Lib.hid hW0
  have HHE := Lib.hid hhE
  have hxl := (Array.getElem?_eq_some_iff.1 hX).1
  have X0 := Lib.hid (show ∀ W, Below W0.heap.size W0 W → W.cell? ⟨hE, 0, none⟩ = some (.int .i64 1) from fun W hb => (hb.cell (p := ⟨hE, 0, none⟩) hxl).trans (cell_of hX 0))
  have X1 := Lib.hid (show ∀ W, Below W0.heap.size W0 W → W.cell? ⟨hE, 1, none⟩ = some (.int .i64 (k : Int)) from fun W hb => (hb.cell (p := ⟨hE, 1, none⟩) hxl).trans (cell_of hX 1))
  have X2 := Lib.hid (show ∀ W, Below W0.heap.size W0 W → W.cell? ⟨hE, 2, none⟩ = some (.int .i64 (j : Int)) from fun W hb => (hb.cell (p := ⟨hE, 2, none⟩) hxl).trans (cell_of hX 2))
  have X3 := Lib.hid (show ∀ W, Below W0.heap.size W0 W → W.cell? ⟨hE, 3, none⟩ = some (.int .u32 va) from fun W hb => (hb.cell (p := ⟨hE, 3, none⟩) hxl).trans (cell_of hX 3))
  have X4 := Lib.hid (show ∀ W, Below W0.heap.size W0 W → W.cell? ⟨hE, 4, none⟩ = some (.int .u32 ne) from fun W hb => (hb.cell (p := ⟨hE, 4, none⟩) hxl).trans (cell_of hX 4))
  have X5 := Lib.hid (show ∀ W, Below W0.heap.size W0 W → W.cell? ⟨hE, 5, none⟩ = some (.bool dn) from fun W hb => (hb.cell (p := ⟨hE, 5, none⟩) hxl).trans (cell_of hX 5))
  have C0 := Lib.hid (show ∀ W, Below W0.heap.size W0 W → W.cell? ⟨b, 0, none⟩ = some (.slice (some ⟨gB, oB, none⟩) B.length kB) from fun W hb => (hb.cell (p := ⟨b, 0, none⟩) hbl).trans (cell_of hh.blk 0))
  have C1 := Lib.hid (show ∀ W, Below W0.heap.size W0 W → W.cell? ⟨b, 1, none⟩ = some (.slice (some ⟨gM, oM, none⟩) M.length kM) from fun W hb => (hb.cell (p := ⟨b, 1, none⟩) hbl).trans (cell_of hh.blk 1))
  have hgB := (h.lt gB (.inr (.inl rfl))).2
  have E0 := Lib.hid (show ∀ W, Below W0.heap.size W0 W → W.cell? ⟨gB, oB + k, none⟩ = some (.slice sd (B.getD k []).length cp) from fun W hb => (hb.cell (p := ⟨gB, oB + k, none⟩) (Nat.lt_of_lt_of_le hgB HB0.out.size)).trans ((HB0.out.cell (p := ⟨gB, oB + k, none⟩) hgB).trans e0))
  have Z0 := Lib.hid (show ∀ W, Below W0.heap.size W0 W → W.frozen? ⟨gB, oB + k, none⟩ = false from fun W hb => (World.frozen?_of_block (a := ⟨gB, oB + k, none⟩) ((hb.block gB (Nat.lt_of_lt_of_le hgB HB0.out.size)).trans (HB0.out.block gB hgB))).trans z0)
  have ROW := Lib.hid (show ∀ W, Below W0.heap.size W0 W → winRow W lo 87 2 (.slice sd (B.getD k []).length cp) (B.getD k []).length (flatW (B.getD k [])) from fun W hb => (hrow.below HB0.out).below hb)
  have HVK := Lib.hid hvk
  have HGB := Lib.hid hgB
  have hkl : (k : Int) < B.length := by omega
  have HKK := Lib.hid hk
  clear e0 z0 hrow hvk hk hgB
  have hgM := (h.lt gM (.inr (.inr (.inl rfl)))).2
  have E3 := Lib.hid (show ∀ W, Below W0.heap.size W0 W → W.cell? ⟨gM, oM + j, none⟩ = some (.int .u32 (M.getD j 0)) from fun W hb => (hb.cell (p := ⟨gM, oM + j, none⟩) (Nat.lt_of_lt_of_le hgM HB0.out.size)).trans ((HB0.out.cell (p := ⟨gM, oM + j, none⟩) hgM).trans e3))
  have Z3 := Lib.hid (show ∀ W, Below W0.heap.size W0 W → W.frozen? ⟨gM, oM + j, none⟩ = false from fun W hb => (World.frozen?_of_block (a := ⟨gM, oM + j, none⟩) ((hb.block gM (Nat.lt_of_lt_of_le hgM HB0.out.size)).trans (HB0.out.block gM hgM))).trans z3)
  have HGM := Lib.hid hgM
  have hjl : (j : Int) < M.length := by omega
  have HJJ := Lib.hid hj
  clear e3 z3 hj hgM
  have HH := Lib.hid hh
  have HIN := Lib.hid h
  have HB := Lib.hid (Below.refl W0.heap.size W0)
  clear hX hb0 hh hbl hxl h hW0 hhE
  go_enter Tryd.func21, Tryd.ntmps21
  go_wp2_with fail
  rw [← HHE.out, HW0.out]
  refine wp_region_lexA ⟨[], []⟩ (fun x => Below W0.heap.size W0 x) (by kernel_rfl) (by kernel_rfl) (Below.refl _ _).drew ?_
  intro S hto hof hne
  have yX0 : ∀ z : Wd S, z.w.cell? ⟨hE, 0, none⟩ = some (.int .i64 1) := fun z => X0.out z.w (HB.out.trans ((hto z).mono HB.out.size))
  have yX1 : ∀ z : Wd S, z.w.cell? ⟨hE, 1, none⟩ = some (.int .i64 (k : Int)) := fun z => X1.out z.w (HB.out.trans ((hto z).mono HB.out.size))
  have yC0 : ∀ z : Wd S, z.w.cell? ⟨b, 0, none⟩ = some (.slice (some ⟨gB, oB, none⟩) B.length kB) := fun z => C0.out z.w (HB.out.trans ((hto z).mono HB.out.size))
  have Hof := Lib.hid hof
  clear hto hof
  refine lexW_light 23 (by kernel_rfl) ?_
  simp only [List.take_succ_cons, List.take_zero, List.drop_succ_cons, List.drop_zero]
  repeat (first | go_big_quiet_skip | (go_big_quiet_want; go_big_quiet_op; go_big_quiet_on))
  refine wpQuiet_nil ?_
  refine lexW_done ?_
  clear yX0 yX1 yC0
  have HB := Lib.hid (HB.out.trans ((Below.refl W0.heap.size W0).drew.mono HB.out.size))
  generalize W0.drew = W1 at *
  go_wp2_with fail
  refine wp_region_lexA ⟨[], []⟩ (fun x => Below W1.heap.size W1 x) (by kernel_rfl) (by kernel_rfl) (Below.refl _ _).drew ?_
  intro S hto hof hne
  have yX0 : ∀ z : Wd S, z.w.cell? ⟨hE, 0, none⟩ = some (.int .i64 1) := fun z => X0.out z.w (HB.out.trans ((hto z).mono HB.out.size))
  have yX2 : ∀ z : Wd S, z.w.cell? ⟨hE, 2, none⟩ = some (.int .i64 (j : Int)) := fun z => X2.out z.w (HB.out.trans ((hto z).mono HB.out.size))
  have yC1 : ∀ z : Wd S, z.w.cell? ⟨b, 1, none⟩ = some (.slice (some ⟨gM, oM, none⟩) M.length kM) := fun z => C1.out z.w (HB.out.trans ((hto z).mono HB.out.size))
  have Hof := Lib.hid hof
  clear hto hof
  refine lexW_light 18 (by kernel_rfl) ?_
  simp only [List.take_succ_cons, List.take_zero, List.drop_succ_cons, List.drop_zero]
  repeat (first | go_big_quiet_skip | (go_big_quiet_want; go_big_quiet_op; go_big_quiet_on))
  refine wpQuiet_nil ?_
  refine lexW_done ?_
  clear yX0 yX2 yC1
  have HB := Lib.hid (HB.out.trans ((Below.refl W1.heap.size W1).drew.mono HB.out.size))
  generalize W1.drew = W2 at *
  go_wp2_with fail
  refine wp_region_lexA ⟨[], []⟩ (fun x => Below W2.heap.size W2 x) (by kernel_rfl) (by kernel_rfl) (Below.refl _ _).drew ?_
  intro S hto hof hne
  have yC0 : ∀ z : Wd S, z.w.cell? ⟨b, 0, none⟩ = some (.slice (some ⟨gB, oB, none⟩) B.length kB) := fun z => C0.out z.w (HB.out.trans ((hto z).mono HB.out.size))
  have yX1 : ∀ z : Wd S, z.w.cell? ⟨hE, 1, none⟩ = some (.int .i64 (k : Int)) := fun z => X1.out z.w (HB.out.trans ((hto z).mono HB.out.size))
  have yE0 : ∀ z : Wd S, z.w.cell? ⟨gB, oB + k, none⟩ = some (.slice sd (B.getD k []).length cp) := fun z => E0.out z.w (HB.out.trans ((hto z).mono HB.out.size))
  have Hof := Lib.hid hof
  clear hto hof
  refine lexW_light 9 (by kernel_rfl) ?_
  simp only [List.take_succ_cons, List.take_zero, List.drop_succ_cons, List.drop_zero]
  repeat (first | go_big_quiet_skip | (go_big_quiet_want; go_big_quiet_op; go_big_quiet_on))
  refine wpQuiet_nil ?_
  refine lexW_done ?_
  clear yC0 yX1 yE0
  have HB := Lib.hid (HB.out.trans ((Below.refl W2.heap.size W2).drew.mono HB.out.size))
  generalize W2.drew = W3 at *
  have qX0 := X0.out _ HB.out
  go_wp2_with fail
  clear qX0
  refine wp_region_lexA ⟨[31], []⟩ (fun x => Below W3.heap.size W3 x) (by kernel_rfl) (by kernel_rfl) (Below.refl _ _).drew ?_
  intro S hto hof hne
  have yX1 : ∀ z : Wd S, z.w.cell? ⟨hE, 1, none⟩ = some (.int .i64 (k : Int)) := fun z => X1.out z.w (HB.out.trans ((hto z).mono HB.out.size))
  have yX2 : ∀ z : Wd S, z.w.cell? ⟨hE, 2, none⟩ = some (.int .i64 (j : Int)) := fun z => X2.out z.w (HB.out.trans ((hto z).mono HB.out.size))
  have yX3 : ∀ z : Wd S, z.w.cell? ⟨hE, 3, none⟩ = some (.int .u32 va) := fun z => X3.out z.w (HB.out.trans ((hto z).mono HB.out.size))
  have HT := Lib.hid (fun z : Wd S => HH.out.below (HB.out.trans ((hto z).mono HB.out.size)))
  have Hof := Lib.hid hof
  clear hto hof
  refine lexW_light 5 (by kernel_rfl) ?_
  simp only [List.take_succ_cons, List.take_zero, List.drop_succ_cons, List.drop_zero]
  repeat (first | go_big_quiet_skip | (go_big_quiet_want; go_big_quiet_op; go_big_quiet_on))
  refine wpQuiet_nil ?_
  refine lexW_pure (by kernel_rfl) (by rfl) rfl Tryd.func31 rfl (by kernel_rfl) (fun x => rread_ok lo b _ _ vs B M k j x.w (HT.out x) HKK.out HJJ.out) (by go_simp) ?_
  simp only [Act.put, List.setIfInBounds_toArray, List.set_cons_zero, List.set_cons_succ]
  rw [HRV.out]
  refine lexW_light 3 (by kernel_rfl) ?_
  simp only [List.take_succ_cons, List.take_zero, List.drop_succ_cons, List.drop_zero]
  repeat (first | go_big_quiet_skip | (go_big_quiet_want; go_big_quiet_op; go_big_quiet_on))
  refine wpQuiet_nil ?_
  refine lexW_done ?_
  clear yX1 yX2 yX3 HT
  have HB := Lib.hid (HB.out.trans ((Below.refl W3.heap.size W3).drew.mono HB.out.size))
  generalize W3.drew = W4 at *
  go_wp2_with fail
  go_ret
  exact ⟨rfl, HB0.out.trans (HB.out.mono HB0.out.size)⟩

set_option maxRecDepth 100000 in
set_option maxHeartbeats 4000000 in
theorem rcommit_none (lo b : Nat) (vB vM : Value) (vs : List Value) (B : Bufs) (M : List Int) (k j : Nat) (va ne : Int) (dn : Bool) (w : World) (h : MdAt tyR w lo b vB vM vs B M) (hk : k < B.length) (hj : j < M.length) (hL : B.getD k [] = ([] : List (Int × Int))) :
    Calls Tryd.prog 21 #[.pointer (some ⟨b, 0, none⟩), .agg #[.int .i64 3, .int .i64 (k : Int), .int .i64 (j : Int), .int .u32 va, .int .u32 ne, .bool dn]] w fun ev w' => ev = .returned (.int .i64 9) ∧ Below w.heap.size w w' := by
  have g1 : decide ((k : Int) < 0) = false := by simp
  have g2 : decide ((k : Int) ≥ (B.length : Int)) = false := by simp; omega
  have g3 : decide (B.length ≤ k) = false := by simp; omega
  have g7 : decide ((j : Int) < 0) = false := by simp
  have g8 : decide ((j : Int) ≥ (M.length : Int)) = false := by simp; omega
  have g9 : decide (M.length ≤ j) = false := by simp; omega
  obtain ⟨gB, oB, kB, sd, cp, rfl, hvk, e0, z0, hrow⟩ := h.buf hk
  rw [hL] at hvk e0 hrow
  obtain ⟨gM, oM, kM, rfl, e3, z3⟩ := h.mem hj
  have hX := heap_alloc_new w (.cells #[.int .i64 3, .int .i64 (k : Int), .int .i64 (j : Int), .int .u32 va, .int .u32 ne, .bool dn] 24)
  have hb0 : Below w.heap.size w (w.alloc (.cells #[.int .i64 3, .int .i64 (k : Int), .int .i64 (j : Int), .int .u32 va, .int .u32 ne, .bool dn] 24)) := (Below.refl _ _).alloc (Nat.le_refl _) _
  have HB0 := Lib.hid hb0
  have hh := h.below hb0
  have hbl := (hh.lt b (.inl rfl)).2
  obtain ⟨hE, hhE⟩ : ∃ hE, hE = w.heap.size := ⟨_, rfl⟩
  rw [← hhE] at hX
  generalize hW0 : w.alloc (.cells #[.int .i64 3, .int .i64 (k : Int), .int .i64 (j : Int), .int .u32 va, .int .u32 ne, .bool dn] 24) = W0 at *
  have HW0 := Lib.hid hW0
  have HHE := Lib.hid hhE
  have hxl := (Array.getElem?_eq_some_iff.1 hX).1
  have X0 := Lib.hid (show ∀ W, Below W0.heap.size W0 W → W.cell? ⟨hE, 0, none⟩ = some (.int .i64 3) from fun W hb => (hb.cell (p := ⟨hE, 0, none⟩) hxl).trans (cell_of hX 0))
  have X1 := Lib.hid (show ∀ W, Below W0.heap.size W0 W → W.cell? ⟨hE, 1, none⟩ = some (.int .i64 (k : Int)) from fun W hb => (hb.cell (p := ⟨hE, 1, none⟩) hxl).trans (cell_of hX 1))
  have X2 := Lib.hid (show ∀ W, Below W0.heap.size W0 W → W.cell? ⟨hE, 2, none⟩ = some (.int .i64 (j : Int)) from fun W hb => (hb.cell (p := ⟨hE, 2, none⟩) hxl).trans (cell_of hX 2))
  have X3 := Lib.hid (show ∀ W, Below W0.heap.size W0 W → W.cell? ⟨hE, 3, none⟩ = some (.int .u32 va) from fun W hb => (hb.cell (p := ⟨hE, 3, none⟩) hxl).trans (cell_of hX 3))
  have X4 := Lib.hid (show ∀ W, Below W0.heap.size W0 W → W.cell? ⟨hE, 4, none⟩ = some (.int .u32 ne) from fun W hb => (hb.cell (p := ⟨hE, 4, none⟩) hxl).trans (cell_of hX 4))
  have X5 := Lib.hid (show ∀ W, Below W0.heap.size W0 W → W.cell? ⟨hE, 5, none⟩ = some (.bool dn) from fun W hb => (hb.cell (p := ⟨hE, 5, none⟩) hxl).trans (cell_of hX 5))
  have C0 := Lib.hid (show ∀ W, Below W0.heap.size W0 W → W.cell? ⟨b, 0, none⟩ = some (.slice (some ⟨gB, oB, none⟩) B.length kB) from fun W hb => (hb.cell (p := ⟨b, 0, none⟩) hbl).trans (cell_of hh.blk 0))
  have C1 := Lib.hid (show ∀ W, Below W0.heap.size W0 W → W.cell? ⟨b, 1, none⟩ = some (.slice (some ⟨gM, oM, none⟩) M.length kM) from fun W hb => (hb.cell (p := ⟨b, 1, none⟩) hbl).trans (cell_of hh.blk 1))
  have hgB := (h.lt gB (.inr (.inl rfl))).2
  have E0 := Lib.hid (show ∀ W, Below W0.heap.size W0 W → W.cell? ⟨gB, oB + k, none⟩ = some (.slice sd (([] : List (Int × Int))).length cp) from fun W hb => (hb.cell (p := ⟨gB, oB + k, none⟩) (Nat.lt_of_lt_of_le hgB HB0.out.size)).trans ((HB0.out.cell (p := ⟨gB, oB + k, none⟩) hgB).trans e0))
  have Z0 := Lib.hid (show ∀ W, Below W0.heap.size W0 W → W.frozen? ⟨gB, oB + k, none⟩ = false from fun W hb => (World.frozen?_of_block (a := ⟨gB, oB + k, none⟩) ((hb.block gB (Nat.lt_of_lt_of_le hgB HB0.out.size)).trans (HB0.out.block gB hgB))).trans z0)
  have ROW := Lib.hid (show ∀ W, Below W0.heap.size W0 W → winRow W lo 87 2 (.slice sd (([] : List (Int × Int))).length cp) (([] : List (Int × Int))).length (flatW (([] : List (Int × Int)))) from fun W hb => (hrow.below HB0.out).below hb)
  have HVK := Lib.hid hvk
  have HGB := Lib.hid hgB
  have hkl : (k : Int) < B.length := by omega
  have HKK := Lib.hid hk
  clear e0 z0 hrow hvk hk hgB
  have hgM := (h.lt gM (.inr (.inr (.inl rfl)))).2
  have E3 := Lib.hid (show ∀ W, Below W0.heap.size W0 W → W.cell? ⟨gM, oM + j, none⟩ = some (.int .u32 (M.getD j 0)) from fun W hb => (hb.cell (p := ⟨gM, oM + j, none⟩) (Nat.lt_of_lt_of_le hgM HB0.out.size)).trans ((HB0.out.cell (p := ⟨gM, oM + j, none⟩) hgM).trans e3))
  have Z3 := Lib.hid (show ∀ W, Below W0.heap.size W0 W → W.frozen? ⟨gM, oM + j, none⟩ = false from fun W hb => (World.frozen?_of_block (a := ⟨gM, oM + j, none⟩) ((hb.block gM (Nat.lt_of_lt_of_le hgM HB0.out.size)).trans (HB0.out.block gM hgM))).trans z3)
  have HGM := Lib.hid hgM
  have hjl : (j : Int) < M.length := by omega
  have HJJ := Lib.hid hj
  clear e3 z3 hj hgM
  have HH := Lib.hid hh
  have HIN := Lib.hid h
  have HB := Lib.hid (Below.refl W0.heap.size W0)
  clear hX hb0 hh hbl hxl h hW0 hhE
  go_enter Tryd.func21, Tryd.ntmps21
  go_wp2_with fail
  rw [← HHE.out, HW0.out]
  refine wp_region_lexA ⟨[], []⟩ (fun x => Below W0.heap.size W0 x) (by kernel_rfl) (by kernel_rfl) (Below.refl _ _).drew ?_
  intro S hto hof hne
  have yX0 : ∀ z : Wd S, z.w.cell? ⟨hE, 0, none⟩ = some (.int .i64 3) := fun z => X0.out z.w (HB.out.trans ((hto z).mono HB.out.size))
  have yX1 : ∀ z : Wd S, z.w.cell? ⟨hE, 1, none⟩ = some (.int .i64 (k : Int)) := fun z => X1.out z.w (HB.out.trans ((hto z).mono HB.out.size))
  have yC0 : ∀ z : Wd S, z.w.cell? ⟨b, 0, none⟩ = some (.slice (some ⟨gB, oB, none⟩) B.length kB) := fun z => C0.out z.w (HB.out.trans ((hto z).mono HB.out.size))
  have Hof := Lib.hid hof
  clear hto hof
  refine lexW_light 23 (by kernel_rfl) ?_
  simp only [List.take_succ_cons, List.take_zero, List.drop_succ_cons, List.drop_zero]
  repeat (first | go_big_quiet_skip | (go_big_quiet_want; go_big_quiet_op; go_big_quiet_on))
  refine wpQuiet_nil ?_
  refine lexW_done ?_
  clear yX0 yX1 yC0
  have HB := Lib.hid (HB.out.trans ((Below.refl W0.heap.size W0).drew.mono HB.out.size))
  generalize W0.drew = W1 at *
  go_wp2_with fail
  refine wp_region_lexA ⟨[], []⟩ (fun x => Below W1.heap.size W1 x) (by kernel_rfl) (by kernel_rfl) (Below.refl _ _).drew ?_
  intro S hto hof hne
  have yX0 : ∀ z : Wd S, z.w.cell? ⟨hE, 0, none⟩ = some (.int .i64 3) := fun z => X0.out z.w (HB.out.trans ((hto z).mono HB.out.size))
  have yX2 : ∀ z : Wd S, z.w.cell? ⟨hE, 2, none⟩ = some (.int .i64 (j : Int)) := fun z => X2.out z.w (HB.out.trans ((hto z).mono HB.out.size))
  have yC1 : ∀ z : Wd S, z.w.cell? ⟨b, 1, none⟩ = some (.slice (some ⟨gM, oM, none⟩) M.length kM) := fun z => C1.out z.w (HB.out.trans ((hto z).mono HB.out.size))
  have Hof := Lib.hid hof
  clear hto hof
  refine lexW_light 18 (by kernel_rfl) ?_
  simp only [List.take_succ_cons, List.take_zero, List.drop_succ_cons, List.drop_zero]
  repeat (first | go_big_quiet_skip | (go_big_quiet_want; go_big_quiet_op; go_big_quiet_on))
  refine wpQuiet_nil ?_
  refine lexW_done ?_
  clear yX0 yX2 yC1
  have HB := Lib.hid (HB.out.trans ((Below.refl W1.heap.size W1).drew.mono HB.out.size))
  generalize W1.drew = W2 at *
  go_wp2_with fail
  refine wp_region_lexA ⟨[], []⟩ (fun x => Below W2.heap.size W2 x) (by kernel_rfl) (by kernel_rfl) (Below.refl _ _).drew ?_
  intro S hto hof hne
  have yC0 : ∀ z : Wd S, z.w.cell? ⟨b, 0, none⟩ = some (.slice (some ⟨gB, oB, none⟩) B.length kB) := fun z => C0.out z.w (HB.out.trans ((hto z).mono HB.out.size))
  have yX1 : ∀ z : Wd S, z.w.cell? ⟨hE, 1, none⟩ = some (.int .i64 (k : Int)) := fun z => X1.out z.w (HB.out.trans ((hto z).mono HB.out.size))
  have yE0 : ∀ z : Wd S, z.w.cell? ⟨gB, oB + k, none⟩ = some (.slice sd (([] : List (Int × Int))).length cp) := fun z => E0.out z.w (HB.out.trans ((hto z).mono HB.out.size))
  have Hof := Lib.hid hof
  clear hto hof
  refine lexW_light 9 (by kernel_rfl) ?_
  simp only [List.take_succ_cons, List.take_zero, List.drop_succ_cons, List.drop_zero]
  repeat (first | go_big_quiet_skip | (go_big_quiet_want; go_big_quiet_op; go_big_quiet_on))
  refine wpQuiet_nil ?_
  refine lexW_done ?_
  clear yC0 yX1 yE0
  have HB := Lib.hid (HB.out.trans ((Below.refl W2.heap.size W2).drew.mono HB.out.size))
  generalize W2.drew = W3 at *
  have qX0 := X0.out _ HB.out
  simp only [List.length_nil] at *
  go_wp2_with fail
  go_ret
  exact ⟨rfl, HB0.out.trans (HB.out.mono HB0.out.size)⟩

set_option maxRecDepth 100000 in
set_option maxHeartbeats 4000000 in
theorem rcommit_no1 (lo b : Nat) (vB vM : Value) (vs : List Value) (B : Bufs) (M : List Int) (k j : Nat) (x1 x2 : Int) (L : List (Int × Int)) (va ne : Int) (dn : Bool) (w : World) (h : MdAt tyR w lo b vB vM vs B M) (hk : k < B.length) (hj : j < M.length) (hL : B.getD k [] = (x1, x2) :: L) (hx : x1 ≠ (j : Int)) :
    Calls Tryd.prog 21 #[.pointer (some ⟨b, 0, none⟩), .agg #[.int .i64 3, .int .i64 (k : Int), .int .i64 (j : Int), .int .u32 va, .int .u32 ne, .bool dn]] w fun ev w' => ev = .returned (.int .i64 10) ∧ Below w.heap.size w w' := by
  have g1 : decide ((k : Int) < 0) = false := by simp
  have g2 : decide ((k : Int) ≥ (B.length : Int)) = false := by simp; omega
  have g3 : decide (B.length ≤ k) = false := by simp; omega
  have g7 : decide ((j : Int) < 0) = false := by simp
  have g8 : decide ((j : Int) ≥ (M.length : Int)) = false := by simp; omega
  have g9 : decide (M.length ≤ j) = false := by simp; omega
  have gx : (x1 == (j : Int)) = false := by simpa using hx
  clear hx
  obtain ⟨gB, oB, kB, sd, cp, rfl, hvk, e0, z0, hrow⟩ := h.buf hk
  rw [hL] at hvk e0 hrow
  obtain ⟨gM, oM, kM, rfl, e3, z3⟩ := h.mem hj
  have hX := heap_alloc_new w (.cells #[.int .i64 3, .int .i64 (k : Int), .int .i64 (j : Int), .int .u32 va, .int .u32 ne, .bool dn] 24)
  have hb0 : Below w.heap.size w (w.alloc (.cells #[.int .i64 3, .int .i64 (k : Int), .int .i64 (j : Int), .int .u32 va, .int .u32 ne, .bool dn] 24)) := (Below.refl _ _).alloc (Nat.le_refl _) _
  have HB0 := Lib.hid hb0
  have hh := h.below hb0
  have hbl := (hh.lt b (.inl rfl)).2
  obtain ⟨hE, hhE⟩ : ∃ hE, hE = w.heap.size := ⟨_, rfl⟩
  rw [← hhE] at hX
  generalize hW0 : w.alloc (.cells #[.int .i64 3, .int .i64 (k : Int), .int .i64 (j : Int), .int .u32 va, .int .u32 ne, .bool dn] 24) = W0 at *
  have HW0 := Lib.hid hW0
  have HHE := Lib.hid hhE
  have hxl := (Array.getElem?_eq_some_iff.1 hX).1
  have X0 := Lib.hid (show ∀ W, Below W0.heap.size W0 W → W.cell? ⟨hE, 0, none⟩ = some (.int .i64 3) from fun W hb => (hb.cell (p := ⟨hE, 0, none⟩) hxl).trans (cell_of hX 0))
  have X1 := Lib.hid (show ∀ W, Below W0.heap.size W0 W → W.cell? ⟨hE, 1, none⟩ = some (.int .i64 (k : Int)) from fun W hb => (hb.cell (p := ⟨hE, 1, none⟩) hxl).trans (cell_of hX 1))
  have X2 := Lib.hid (show ∀ W, Below W0.heap.size W0 W → W.cell? ⟨hE, 2, none⟩ = some (.int .i64 (j : Int)) from fun W hb => (hb.cell (p := ⟨hE, 2, none⟩) hxl).trans (cell_of hX 2))
  have X3 := Lib.hid (show ∀ W, Below W0.heap.size W0 W → W.cell? ⟨hE, 3, none⟩ = some (.int .u32 va) from fun W hb => (hb.cell (p := ⟨hE, 3, none⟩) hxl).trans (cell_of hX 3))
  have X4 := Lib.hid (show ∀ W, Below W0.heap.size W0 W → W.cell? ⟨hE, 4, none⟩ = some (.int .u32 ne) from fun W hb => (hb.cell (p := ⟨hE, 4, none⟩) hxl).trans (cell_of hX 4))
  have X5 := Lib.hid (show ∀ W, Below W0.heap.size W0 W → W.cell? ⟨hE, 5, none⟩ = some (.bool dn) from fun W hb => (hb.cell (p := ⟨hE, 5, none⟩) hxl).trans (cell_of hX 5))
  have C0 := Lib.hid (show ∀ W, Below W0.heap.size W0 W → W.cell? ⟨b, 0, none⟩ = some (.slice (some ⟨gB, oB, none⟩) B.length kB) from fun W hb => (hb.cell (p := ⟨b, 0, none⟩) hbl).trans (cell_of hh.blk 0))
  have C1 := Lib.hid (show ∀ W, Below W0.heap.size W0 W → W.cell? ⟨b, 1, none⟩ = some (.slice (some ⟨gM, oM, none⟩) M.length kM) from fun W hb => (hb.cell (p := ⟨b, 1, none⟩) hbl).trans (cell_of hh.blk 1))
  have hgB := (h.lt gB (.inr (.inl rfl))).2
  have E0 := Lib.hid (show ∀ W, Below W0.heap.size W0 W → W.cell? ⟨gB, oB + k, none⟩ = some (.slice sd ((x1, x2) :: L).length cp) from fun W hb => (hb.cell (p := ⟨gB, oB + k, none⟩) (Nat.lt_of_lt_of_le hgB HB0.out.size)).trans ((HB0.out.cell (p := ⟨gB, oB + k, none⟩) hgB).trans e0))
  have Z0 := Lib.hid (show ∀ W, Below W0.heap.size W0 W → W.frozen? ⟨gB, oB + k, none⟩ = false from fun W hb => (World.frozen?_of_block (a := ⟨gB, oB + k, none⟩) ((hb.block gB (Nat.lt_of_lt_of_le hgB HB0.out.size)).trans (HB0.out.block gB hgB))).trans z0)
  have ROW := Lib.hid (show ∀ W, Below W0.heap.size W0 W → winRow W lo 87 2 (.slice sd ((x1, x2) :: L).length cp) ((x1, x2) :: L).length (flatW ((x1, x2) :: L)) from fun W hb => (hrow.below HB0.out).below hb)
  have HVK := Lib.hid hvk
  have HGB := Lib.hid hgB
  have hkl : (k : Int) < B.length := by omega
  have HKK := Lib.hid hk
  clear e0 z0 hrow hvk hk hgB
  have hgM := (h.lt gM (.inr (.inr (.inl rfl)))).2
  have E3 := Lib.hid (show ∀ W, Below W0.heap.size W0 W → W.cell? ⟨gM, oM + j, none⟩ = some (.int .u32 (M.getD j 0)) from fun W hb => (hb.cell (p := ⟨gM, oM + j, none⟩) (Nat.lt_of_lt_of_le hgM HB0.out.size)).trans ((HB0.out.cell (p := ⟨gM, oM + j, none⟩) hgM).trans e3))
  have Z3 := Lib.hid (show ∀ W, Below W0.heap.size W0 W → W.frozen? ⟨gM, oM + j, none⟩ = false from fun W hb => (World.frozen?_of_block (a := ⟨gM, oM + j, none⟩) ((hb.block gM (Nat.lt_of_lt_of_le hgM HB0.out.size)).trans (HB0.out.block gM hgM))).trans z3)
  have HGM := Lib.hid hgM
  have hjl : (j : Int) < M.length := by omega
  have HJJ := Lib.hid hj
  clear e3 z3 hj hgM
  have HH := Lib.hid hh
  have HIN := Lib.hid h
  have HB := Lib.hid (Below.refl W0.heap.size W0)
  clear hX hb0 hh hbl hxl h hW0 hhE
  go_enter Tryd.func21, Tryd.ntmps21
  go_wp2_with fail
  rw [← HHE.out, HW0.out]
  refine wp_region_lexA ⟨[], []⟩ (fun x => Below W0.heap.size W0 x) (by kernel_rfl) (by kernel_rfl) (Below.refl _ _).drew ?_
  intro S hto hof hne
  have yX0 : ∀ z : Wd S, z.w.cell? ⟨hE, 0, none⟩ = some (.int .i64 3) := fun z => X0.out z.w (HB.out.trans ((hto z).mono HB.out.size))
  have yX1 : ∀ z : Wd S, z.w.cell? ⟨hE, 1, none⟩ = some (.int .i64 (k : Int)) := fun z => X1.out z.w (HB.out.trans ((hto z).mono HB.out.size))
  have yC0 : ∀ z : Wd S, z.w.cell? ⟨b, 0, none⟩ = some (.slice (some ⟨gB, oB, none⟩) B.length kB) := fun z => C0.out z.w (HB.out.trans ((hto z).mono HB.out.size))
  have Hof := Lib.hid hof
  clear hto hof
  refine lexW_light 23 (by kernel_rfl) ?_
  simp only [List.take_succ_cons, List.take_zero, List.drop_succ_cons, List.drop_zero]
  repeat (first | go_big_quiet_skip | (go_big_quiet_want; go_big_quiet_op; go_big_quiet_on))
  refine wpQuiet_nil ?_
  refine lexW_done ?_
  clear yX0 yX1 yC0
  have HB := Lib.hid (HB.out.trans ((Below.refl W0.heap.size W0).drew.mono HB.out.size))
  generalize W0.drew = W1 at *
  go_wp2_with fail
  refine wp_region_lexA ⟨[], []⟩ (fun x => Below W1.heap.size W1 x) (by kernel_rfl) (by kernel_rfl) (Below.refl _ _).drew ?_
  intro S hto hof hne
  have yX0 : ∀ z : Wd S, z.w.cell? ⟨hE, 0, none⟩ = some (.int .i64 3) := fun z => X0.out z.w (HB.out.trans ((hto z).mono HB.out.size))
  have yX2 : ∀ z : Wd S, z.w.cell? ⟨hE, 2, none⟩ = some (.int .i64 (j : Int)) := fun z => X2.out z.w (HB.out.trans ((hto z).mono HB.out.size))
  have yC1 : ∀ z : Wd S, z.w.cell? ⟨b, 1, none⟩ = some (.slice (some ⟨gM, oM, none⟩) M.length kM) := fun z => C1.out z.w (HB.out.trans ((hto z).mono HB.out.size))
  have Hof := Lib.hid hof
  clear hto hof
  refine lexW_light 18 (by kernel_rfl) ?_
  simp only [List.take_succ_cons, List.take_zero, List.drop_succ_cons, List.drop_zero]
  repeat (first | go_big_quiet_skip | (go_big_quiet_want; go_big_quiet_op; go_big_quiet_on))
  refine wpQuiet_nil ?_
  refine lexW_done ?_
  clear yX0 yX2 yC1
  have HB := Lib.hid (HB.out.trans ((Below.refl W1.heap.size W1).drew.mono HB.out.size))
  generalize W1.drew = W2 at *
  go_wp2_with fail
  refine wp_region_lexA ⟨[], []⟩ (fun x => Below W2.heap.size W2 x) (by kernel_rfl) (by kernel_rfl) (Below.refl _ _).drew ?_
  intro S hto hof hne
  have yC0 : ∀ z : Wd S, z.w.cell? ⟨b, 0, none⟩ = some (.slice (some ⟨gB, oB, none⟩) B.length kB) := fun z => C0.out z.w (HB.out.trans ((hto z).mono HB.out.size))
  have yX1 : ∀ z : Wd S, z.w.cell? ⟨hE, 1, none⟩ = some (.int .i64 (k : Int)) := fun z => X1.out z.w (HB.out.trans ((hto z).mono HB.out.size))
  have yE0 : ∀ z : Wd S, z.w.cell? ⟨gB, oB + k, none⟩ = some (.slice sd ((x1, x2) :: L).length cp) := fun z => E0.out z.w (HB.out.trans ((hto z).mono HB.out.size))
  have Hof := Lib.hid hof
  clear hto hof
  refine lexW_light 9 (by kernel_rfl) ?_
  simp only [List.take_succ_cons, List.take_zero, List.drop_succ_cons, List.drop_zero]
  repeat (first | go_big_quiet_skip | (go_big_quiet_want; go_big_quiet_op; go_big_quiet_on))
  refine wpQuiet_nil ?_
  refine lexW_done ?_
  clear yC0 yX1 yE0
  have HB := Lib.hid (HB.out.trans ((Below.refl W2.heap.size W2).drew.mono HB.out.size))
  generalize W2.drew = W3 at *
  have qX0 := X0.out _ HB.out
  obtain ⟨gw, ow, cw, he, _, _, hgw, hcc⟩ := (ROW.out _ HB.out).form (by simp)
  simp only [Value.slice.injEq] at he
  obtain ⟨rfl, _, rfl⟩ := he
  have f1 := hcc 0 (.int .i64 x1) rfl
  have f2 := hcc 1 (.int .u32 x2) rfl
  rw [Nat.add_zero] at f1
  obtain ⟨len, hlen⟩ : ∃ len, len = L.length + 1 := ⟨_, rfl⟩
  rw [← hlen]
  have hl0 : ((len : Int) == 0) = false := by rw [hlen]; simp only [beq_eq_false_iff_ne]; omega
  have hl1 : (0 : Int) < len := by omega
  have hl2 : 0 < len := by omega
  have HLEN := Lib.hid hlen
  clear hcc hlen
  go_wp2_with fail
  clear qX0
  refine wp_region_lexA ⟨[], []⟩ (fun x => Below W3.heap.size W3 x) (by kernel_rfl) (by kernel_rfl) (Below.refl _ _).drew ?_
  intro S hto hof hne
  have yX2 : ∀ z : Wd S, z.w.cell? ⟨hE, 2, none⟩ = some (.int .i64 (j : Int)) := fun z => X2.out z.w (HB.out.trans ((hto z).mono HB.out.size))
  have yX3 : ∀ z : Wd S, z.w.cell? ⟨hE, 3, none⟩ = some (.int .u32 va) := fun z => X3.out z.w (HB.out.trans ((hto z).mono HB.out.size))
  have y1 : ∀ z : Wd S, z.w.cell? ⟨gw, ow, none⟩ = some (.int .i64 x1) := fun z => ((hto z).cell (p := ⟨gw, ow, none⟩) hgw).trans f1
  have y2 : ∀ z : Wd S, z.w.cell? ⟨gw, ow + 1, none⟩ = some (.int .u32 x2) := fun z => ((hto z).cell (p := ⟨gw, ow + 1, none⟩) hgw).trans f2
  clear f1 f2 hgw
  have Hof := Lib.hid hof
  clear hto hof
  refine lexW_light 9 (by kernel_rfl) ?_
  simp only [List.take_succ_cons, List.take_zero, List.drop_succ_cons, List.drop_zero]
  repeat (first | go_big_quiet_skip | (go_big_quiet_want; go_big_quiet_op; go_big_quiet_on))
  refine wpQuiet_nil ?_
  refine lexW_done ?_
  clear yX2 yX3 y1 y2
  have HB := Lib.hid (HB.out.trans ((Below.refl W3.heap.size W3).drew.mono HB.out.size))
  generalize W3.drew = W4 at *
  go_wp2_with fail
  go_ret
  exact ⟨rfl, HB0.out.trans (HB.out.mono HB0.out.size)⟩

set_option maxRecDepth 100000 in
set_option maxHeartbeats 4000000 in
theorem rcommit_no2 (lo b : Nat) (vB vM : Value) (vs : List Value) (B : Bufs) (M : List Int) (k j : Nat) (x2 : Int) (L : List (Int × Int)) (va ne : Int) (dn : Bool) (w : World) (h : MdAt tyR w lo b vB vM vs B M) (hk : k < B.length) (hj : j < M.length) (hL : B.getD k [] = ((j : Int), x2) :: L) (hx : x2 ≠ va) :
    Calls Tryd.prog 21 #[.pointer (some ⟨b, 0, none⟩), .agg #[.int .i64 3, .int .i64 (k : Int), .int .i64 (j : Int), .int .u32 va, .int .u32 ne, .bool dn]] w fun ev w' => ev = .returned (.int .i64 10) ∧ Below w.heap.size w w' := by
  have g1 : decide ((k : Int) < 0) = false := by simp
  have g2 : decide ((k : Int) ≥ (B.length : Int)) = false := by simp; omega
  have g3 : decide (B.length ≤ k) = false := by simp; omega
  have g7 : decide ((j : Int) < 0) = false := by simp
  have g8 : decide ((j : Int) ≥ (M.length : Int)) = false := by simp; omega
  have g9 : decide (M.length ≤ j) = false := by simp; omega
  have gx : (x2 == va) = false := by simpa using hx
  clear hx
  obtain ⟨gB, oB, kB, sd, cp, rfl, hvk, e0, z0, hrow⟩ := h.buf hk
  rw [hL] at hvk e0 hrow
  obtain ⟨gM, oM, kM, rfl, e3, z3⟩ := h.mem hj
  have hX := heap_alloc_new w (.cells #[.int .i64 3, .int .i64 (k : Int), .int .i64 (j : Int), .int .u32 va, .int .u32 ne, .bool dn] 24)
  have hb0 : Below w.heap.size w (w.alloc (.cells #[.int .i64 3, .int .i64 (k : Int), .int .i64 (j : Int), .int .u32 va, .int .u32 ne, .bool dn] 24)) := (Below.refl _ _).alloc (Nat.le_refl _) _
  have HB0 := Lib.hid hb0
  have hh := h.below hb0
  have hbl := (hh.lt b (.inl rfl)).2
  obtain ⟨hE, hhE⟩ : ∃ hE, hE = w.heap.size := ⟨_, rfl⟩
  rw [← hhE] at hX
  generalize hW0 : w.alloc (.cells #[.int .i64 3, .int .i64 (k : Int), .int .i64 (j : Int), .int .u32 va, .int .u32 ne, .bool dn] 24) = W0 at *
  have HW0 := Lib.hid hW0
  have HHE := Lib.hid hhE
  have hxl := (Array.getElem?_eq_some_iff.1 hX).1
  have X0 := Lib.hid (show ∀ W, Below W0.heap.size W0 W → W.cell? ⟨hE, 0, none⟩ = some (.int .i64 3) from fun W hb => (hb.cell (p := ⟨hE, 0, none⟩) hxl).trans (cell_of hX 0))
  have X1 := Lib.hid (show ∀ W, Below W0.heap.size W0 W → W.cell? ⟨hE, 1, none⟩ = some (.int .i64 (k : Int)) from fun W hb => (hb.cell (p := ⟨hE, 1, none⟩) hxl).trans (cell_of hX 1))
  have X2 := Lib.hid (show ∀ W, Below W0.heap.size W0 W → W.cell? ⟨hE, 2, none⟩ = some (.int .i64 (j : Int)) from fun W hb => (hb.cell (p := ⟨hE, 2, none⟩) hxl).trans (cell_of hX 2))
  have X3 := Lib.hid (show ∀ W, Below W0.heap.size W0 W → W.cell? ⟨hE, 3, none⟩ = some (.int .u32 va) from fun W hb => (hb.cell (p := ⟨hE, 3, none⟩) hxl).trans (cell_of hX 3))
  have X4 := Lib.hid (show ∀ W, Below W0.heap.size W0 W → W.cell? ⟨hE, 4, none⟩ = some (.int .u32 ne) from fun W hb => (hb.cell (p := ⟨hE, 4, none⟩) hxl).trans (cell_of hX 4))
  have X5 := Lib.hid (show ∀ W, Below W0.heap.size W0 W → W.cell? ⟨hE, 5, none⟩ = some (.bool dn) from fun W hb => (hb.cell (p := ⟨hE, 5, none⟩) hxl).trans (cell_of hX 5))
  have C0 := Lib.hid (show ∀ W, Below W0.heap.size W0 W → W.cell? ⟨b, 0, none⟩ = some (.slice (some ⟨gB, oB, none⟩) B.length kB) from fun W hb => (hb.cell (p := ⟨b, 0, none⟩) hbl).trans (cell_of hh.blk 0))
  have C1 := Lib.hid (show ∀ W, Below W0.heap.size W0 W → W.cell? ⟨b, 1, none⟩ = some (.slice (some ⟨gM, oM, none⟩) M.length kM) from fun W hb => (hb.cell (p := ⟨b, 1, none⟩) hbl).trans (cell_of hh.blk 1))
  have hgB := (h.lt gB (.inr (.inl rfl))).2
  have E0 := Lib.hid (show ∀ W, Below W0.heap.size W0 W → W.cell? ⟨gB, oB + k, none⟩ = some (.slice sd (((j : Int), x2) :: L).length cp) from fun W hb => (hb.cell (p := ⟨gB, oB + k, none⟩) (Nat.lt_of_lt_of_le hgB HB0.out.size)).trans ((HB0.out.cell (p := ⟨gB, oB + k, none⟩) hgB).trans e0))
  have Z0 := Lib.hid (show ∀ W, Below W0.heap.size W0 W → W.frozen? ⟨gB, oB + k, none⟩ = false from fun W hb => (World.frozen?_of_block (a := ⟨gB, oB + k, none⟩) ((hb.block gB (Nat.lt_of_lt_of_le hgB HB0.out.size)).trans (HB0.out.block gB hgB))).trans z0)
  have ROW := Lib.hid (show ∀ W, Below W0.heap.size W0 W → winRow W lo 87 2 (.slice sd (((j : Int), x2) :: L).length cp) (((j : Int), x2) :: L).length (flatW (((j : Int), x2) :: L)) from fun W hb => (hrow.below HB0.out).below hb)
  have HVK := Lib.hid hvk
  have HGB := Lib.hid hgB
  have hkl : (k : Int) < B.length := by omega
  have HKK := Lib.hid hk
  clear e0 z0 hrow hvk hk hgB
  have hgM := (h.lt gM (.inr (.inr (.inl rfl)))).2
  have E3 := Lib.hid (show ∀ W, Below W0.heap.size W0 W → W.cell? ⟨gM, oM + j, none⟩ = some (.int .u32 (M.getD j 0)) from fun W hb => (hb.cell (p := ⟨gM, oM + j, none⟩) (Nat.lt_of_lt_of_le hgM HB0.out.size)).trans ((HB0.out.cell (p := ⟨gM, oM + j, none⟩) hgM).trans e3))
  have Z3 := Lib.hid (show ∀ W, Below W0.heap.size W0 W → W.frozen? ⟨gM, oM + j, none⟩ = false from fun W hb => (World.frozen?_of_block (a := ⟨gM, oM + j, none⟩) ((hb.block gM (Nat.lt_of_lt_of_le hgM HB0.out.size)).trans (HB0.out.block gM hgM))).trans z3)
  have HGM := Lib.hid hgM
  have hjl : (j : Int) < M.length := by omega
  have HJJ := Lib.hid hj
  clear e3 z3 hj hgM
  have HH := Lib.hid hh
  have HIN := Lib.hid h
  have HB := Lib.hid (Below.refl W0.heap.size W0)
  clear hX hb0 hh hbl hxl h hW0 hhE
  go_enter Tryd.func21, Tryd.ntmps21
  go_wp2_with fail
  rw [← HHE.out, HW0.out]
  refine wp_region_lexA ⟨[], []⟩ (fun x => Below W0.heap.size W0 x) (by kernel_rfl) (by kernel_rfl) (Below.refl _ _).drew ?_
  intro S hto hof hne
  have yX0 : ∀ z : Wd S, z.w.cell? ⟨hE, 0, none⟩ = some (.int .i64 3) := fun z => X0.out z.w (HB.out.trans ((hto z).mono HB.out.size))
  have yX1 : ∀ z : Wd S, z.w.cell? ⟨hE, 1, none⟩ = some (.int .i64 (k : Int)) := fun z => X1.out z.w (HB.out.trans ((hto z).mono HB.out.size))
  have yC0 : ∀ z : Wd S, z.w.cell? ⟨b, 0, none⟩ = some (.slice (some ⟨gB, oB, none⟩) B.length kB) := fun z => C0.out z.w (HB.out.trans ((hto z).mono HB.out.size))
  have Hof := Lib.hid hof
  clear hto hof
  refine lexW_light 23 (by kernel_rfl) ?_
  simp only [List.take_succ_cons, List.take_zero, List.drop_succ_cons, List.drop_zero]
  repeat (first | go_big_quiet_skip | (go_big_quiet_want; go_big_quiet_op; go_big_quiet_on))
  refine wpQuiet_nil ?_
  refine lexW_done ?_
  clear yX0 yX1 yC0
  have HB := Lib.hid (HB.out.trans ((Below.refl W0.heap.size W0).drew.mono HB.out.size))
  generalize W0.drew = W1 at *
  go_wp2_with fail
  refine wp_region_lexA ⟨[], []⟩ (fun x => Below W1.heap.size W1 x) (by kernel_rfl) (by kernel_rfl) (Below.refl _ _).drew ?_
  intro S hto hof hne
  have yX0 : ∀ z : Wd S, z.w.cell? ⟨hE, 0, none⟩ = some (.int .i64 3) := fun z => X0.out z.w (HB.out.trans ((hto z).mono HB.out.size))
  have yX2 : ∀ z : Wd S, z.w.cell? ⟨hE, 2, none⟩ = some (.int .i64 (j : Int)) := fun z => X2.out z.w (HB.out.trans ((hto z).mono HB.out.size))
  have yC1 : ∀ z : Wd S, z.w.cell? ⟨b, 1, none⟩ = some (.slice (some ⟨gM, oM, none⟩) M.length kM) := fun z => C1.out z.w (HB.out.trans ((hto z).mono HB.out.size))
  have Hof := Lib.hid hof
  clear hto hof
  refine lexW_light 18 (by kernel_rfl) ?_
  simp only [List.take_succ_cons, List.take_zero, List.drop_succ_cons, List.drop_zero]
  repeat (first | go_big_quiet_skip | (go_big_quiet_want; go_big_quiet_op; go_big_quiet_on))
  refine wpQuiet_nil ?_
  refine lexW_done ?_
  clear yX0 yX2 yC1
  have HB := Lib.hid (HB.out.trans ((Below.refl W1.heap.size W1).drew.mono HB.out.size))
  generalize W1.drew = W2 at *
  go_wp2_with fail
  refine wp_region_lexA ⟨[], []⟩ (fun x => Below W2.heap.size W2 x) (by kernel_rfl) (by kernel_rfl) (Below.refl _ _).drew ?_
  intro S hto hof hne
  have yC0 : ∀ z : Wd S, z.w.cell? ⟨b, 0, none⟩ = some (.slice (some ⟨gB, oB, none⟩) B.length kB) := fun z => C0.out z.w (HB.out.trans ((hto z).mono HB.out.size))
  have yX1 : ∀ z : Wd S, z.w.cell? ⟨hE, 1, none⟩ = some (.int .i64 (k : Int)) := fun z => X1.out z.w (HB.out.trans ((hto z).mono HB.out.size))
  have yE0 : ∀ z : Wd S, z.w.cell? ⟨gB, oB + k, none⟩ = some (.slice sd (((j : Int), x2) :: L).length cp) := fun z => E0.out z.w (HB.out.trans ((hto z).mono HB.out.size))
  have Hof := Lib.hid hof
  clear hto hof
  refine lexW_light 9 (by kernel_rfl) ?_
  simp only [List.take_succ_cons, List.take_zero, List.drop_succ_cons, List.drop_zero]
  repeat (first | go_big_quiet_skip | (go_big_quiet_want; go_big_quiet_op; go_big_quiet_on))
  refine wpQuiet_nil ?_
  refine lexW_done ?_
  clear yC0 yX1 yE0
  have HB := Lib.hid (HB.out.trans ((Below.refl W2.heap.size W2).drew.mono HB.out.size))
  generalize W2.drew = W3 at *
  have qX0 := X0.out _ HB.out
  obtain ⟨gw, ow, cw, he, _, _, hgw, hcc⟩ := (ROW.out _ HB.out).form (by simp)
  simp only [Value.slice.injEq] at he
  obtain ⟨rfl, _, rfl⟩ := he
  have f1 := hcc 0 (.int .i64 (j : Int)) rfl
  have f2 := hcc 1 (.int .u32 x2) rfl
  rw [Nat.add_zero] at f1
  obtain ⟨len, hlen⟩ : ∃ len, len = L.length + 1 := ⟨_, rfl⟩
  rw [← hlen]
  have hl0 : ((len : Int) == 0) = false := by rw [hlen]; simp only [beq_eq_false_iff_ne]; omega
  have hl1 : (0 : Int) < len := by omega
  have hl2 : 0 < len := by omega
  have HLEN := Lib.hid hlen
  clear hcc hlen
  go_wp2_with fail
  clear qX0
  refine wp_region_lexA ⟨[], []⟩ (fun x => Below W3.heap.size W3 x) (by kernel_rfl) (by kernel_rfl) (Below.refl _ _).drew ?_
  intro S hto hof hne
  have yX2 : ∀ z : Wd S, z.w.cell? ⟨hE, 2, none⟩ = some (.int .i64 (j : Int)) := fun z => X2.out z.w (HB.out.trans ((hto z).mono HB.out.size))
  have yX3 : ∀ z : Wd S, z.w.cell? ⟨hE, 3, none⟩ = some (.int .u32 va) := fun z => X3.out z.w (HB.out.trans ((hto z).mono HB.out.size))
  have y1 : ∀ z : Wd S, z.w.cell? ⟨gw, ow, none⟩ = some (.int .i64 (j : Int)) := fun z => ((hto z).cell (p := ⟨gw, ow, none⟩) hgw).trans f1
  have y2 : ∀ z : Wd S, z.w.cell? ⟨gw, ow + 1, none⟩ = some (.int .u32 x2) := fun z => ((hto z).cell (p := ⟨gw, ow + 1, none⟩) hgw).trans f2
  clear f1 f2 hgw
  have Hof := Lib.hid hof
  clear hto hof
  refine lexW_light 9 (by kernel_rfl) ?_
  simp only [List.take_succ_cons, List.take_zero, List.drop_succ_cons, List.drop_zero]
  repeat (first | go_big_quiet_skip | (go_big_quiet_want; go_big_quiet_op; go_big_quiet_on))
  refine wpQuiet_nil ?_
  refine lexW_done ?_
  clear yX2 yX3 y1 y2
  have HB := Lib.hid (HB.out.trans ((Below.refl W3.heap.size W3).drew.mono HB.out.size))
  generalize W3.drew = W4 at *
  go_wp2_with fail
  go_ret
  exact ⟨rfl, HB0.out.trans (HB.out.mono HB0.out.size)⟩

set_option maxRecDepth 100000 in
set_option maxHeartbeats 4000000 in
theorem rcas_full (lo b : Nat) (vB vM : Value) (vs : List Value) (B : Bufs) (M : List Int) (k j : Nat) (x : Int × Int) (L : List (Int × Int)) (va ne : Int) (dn : Bool) (w : World) (h : MdAt tyR w lo b vB vM vs B M) (hk : k < B.length) (hj : j < M.length) (hL : B.getD k [] = x :: L) :
    Calls Tryd.prog 21 #[.pointer (some ⟨b, 0, none⟩), .agg #[.int .i64 4, .int .i64 (k : Int), .int .i64 (j : Int), .int .u32 va, .int .u32 ne, .bool dn]] w fun ev w' => ev = .returned (.int .i64 9) ∧ Below w.heap.size w w' := by
  have g1 : decide ((k : Int) < 0) = false := by simp
  have g2 : decide ((k : Int) ≥ (B.length : Int)) = false := by simp; omega
  have g3 : decide (B.length ≤ k) = false := by simp; omega
  have g7 : decide ((j : Int) < 0) = false := by simp
  have g8 : decide ((j : Int) ≥ (M.length : Int)) = false := by simp; omega
  have g9 : decide (M.length ≤ j) = false := by simp; omega
  obtain ⟨gB, oB, kB, sd, cp, rfl, hvk, e0, z0, hrow⟩ := h.buf hk
  rw [hL] at hvk e0 hrow
  obtain ⟨gM, oM, kM, rfl, e3, z3⟩ := h.mem hj
  have hX := heap_alloc_new w (.cells #[.int .i64 4, .int .i64 (k : Int), .int .i64 (j : Int), .int .u32 va, .int .u32 ne, .bool dn] 24)
  have hb0 : Below w.heap.size w (w.alloc (.cells #[.int .i64 4, .int .i64 (k : Int), .int .i64 (j : Int), .int .u32 va, .int .u32 ne, .bool dn] 24)) := (Below.refl _ _).alloc (Nat.le_refl _) _
  have HB0 := Lib.hid hb0
  have hh := h.below hb0
  have hbl := (hh.lt b (.inl rfl)).2
  obtain ⟨hE, hhE⟩ : ∃ hE, hE = w.heap.size := ⟨_, rfl⟩
  rw [← hhE] at hX
  generalize hW0 : w.alloc (.cells #[.int .i64 4, .int .i64 (k : Int), .int .i64 (j : Int), .int .u32 va, .int .u32 ne, .bool dn] 24) = W0 at *
  have HW0 := Lib.hid hW0
  have HHE := Lib.hid hhE
  have hxl := (Array.getElem?_eq_some_iff.1 hX).1
  have X0 := Lib.hid (show ∀ W, Below W0.heap.size W0 W → W.cell? ⟨hE, 0, none⟩ = some (.int .i64 4) from fun W hb => (hb.cell (p := ⟨hE, 0, none⟩) hxl).trans (cell_of hX 0))
  have X1 := Lib.hid (show ∀ W, Below W0.heap.size W0 W → W.cell? ⟨hE, 1, none⟩ = some (.int .i64 (k : Int)) from fun W hb => (hb.cell (p := ⟨hE, 1, none⟩) hxl).trans (cell_of hX 1))
  have X2 := Lib.hid (show ∀ W, Below W0.heap.size W0 W → W.cell? ⟨hE, 2, none⟩ = some (.int .i64 (j : Int)) from fun W hb => (hb.cell (p := ⟨hE, 2, none⟩) hxl).trans (cell_of hX 2))
  have X3 := Lib.hid (show ∀ W, Below W0.heap.size W0 W → W.cell? ⟨hE, 3, none⟩ = some (.int .u32 va) from fun W hb => (hb.cell (p := ⟨hE, 3, none⟩) hxl).trans (cell_of hX 3))
  have X4 := Lib.hid (show ∀ W, Below W0.heap.size W0 W → W.cell? ⟨hE, 4, none⟩ = some (.int .u32 ne) from fun W hb => (hb.cell (p := ⟨hE, 4, none⟩) hxl).trans (cell_of hX 4))
  have X5 := Lib.hid (show ∀ W, Below W0.heap.size W0 W → W.cell? ⟨hE, 5, none⟩ = some (.bool dn) from fun W hb => (hb.cell (p := ⟨hE, 5, none⟩) hxl).trans (cell_of hX 5))
  have C0 := Lib.hid (show ∀ W, Below W0.heap.size W0 W → W.cell? ⟨b, 0, none⟩ = some (.slice (some ⟨gB, oB, none⟩) B.length kB) from fun W hb => (hb.cell (p := ⟨b, 0, none⟩) hbl).trans (cell_of hh.blk 0))
  have C1 := Lib.hid (show ∀ W, Below W0.heap.size W0 W → W.cell? ⟨b, 1, none⟩ = some (.slice (some ⟨gM, oM, none⟩) M.length kM) from fun W hb => (hb.cell (p := ⟨b, 1, none⟩) hbl).trans (cell_of hh.blk 1))
  have hgB := (h.lt gB (.inr (.inl rfl))).2
  have E0 := Lib.hid (show ∀ W, Below W0.heap.size W0 W → W.cell? ⟨gB, oB + k, none⟩ = some (.slice sd (x :: L).length cp) from fun W hb => (hb.cell (p := ⟨gB, oB + k, none⟩) (Nat.lt_of_lt_of_le hgB HB0.out.size)).trans ((HB0.out.cell (p := ⟨gB, oB + k, none⟩) hgB).trans e0))
  have Z0 := Lib.hid (show ∀ W, Below W0.heap.size W0 W → W.frozen? ⟨gB, oB + k, none⟩ = false from fun W hb => (World.frozen?_of_block (a := ⟨gB, oB + k, none⟩) ((hb.block gB (Nat.lt_of_lt_of_le hgB HB0.out.size)).trans (HB0.out.block gB hgB))).trans z0)
  have ROW := Lib.hid (show ∀ W, Below W0.heap.size W0 W → winRow W lo 87 2 (.slice sd (x :: L).length cp) (x :: L).length (flatW (x :: L)) from fun W hb => (hrow.below HB0.out).below hb)
  have HVK := Lib.hid hvk
  have HGB := Lib.hid hgB
  have hkl : (k : Int) < B.length := by omega
  have HKK := Lib.hid hk
  clear e0 z0 hrow hvk hk hgB
  have hgM := (h.lt gM (.inr (.inr (.inl rfl)))).2
  have E3 := Lib.hid (show ∀ W, Below W0.heap.size W0 W → W.cell? ⟨gM, oM + j, none⟩ = some (.int .u32 (M.getD j 0)) from fun W hb => (hb.cell (p := ⟨gM, oM + j, none⟩) (Nat.lt_of_lt_of_le hgM HB0.out.size)).trans ((HB0.out.cell (p := ⟨gM, oM + j, none⟩) hgM).trans e3))
  have Z3 := Lib.hid (show ∀ W, Below W0.heap.size W0 W → W.frozen? ⟨gM, oM + j, none⟩ = false from fun W hb => (World.frozen?_of_block (a := ⟨gM, oM + j, none⟩) ((hb.block gM (Nat.lt_of_lt_of_le hgM HB0.out.size)).trans (HB0.out.block gM hgM))).trans z3)
  have HGM := Lib.hid hgM
  have hjl : (j : Int) < M.length := by omega
  have HJJ := Lib.hid hj
  clear e3 z3 hj hgM
  have HH := Lib.hid hh
  have HIN := Lib.hid h
  have HB := Lib.hid (Below.refl W0.heap.size W0)
  clear hX hb0 hh hbl hxl h hW0 hhE
  go_enter Tryd.func21, Tryd.ntmps21
  go_wp2_with fail
  rw [← HHE.out, HW0.out]
  refine wp_region_lexA ⟨[], []⟩ (fun x => Below W0.heap.size W0 x) (by kernel_rfl) (by kernel_rfl) (Below.refl _ _).drew ?_
  intro S hto hof hne
  have yX0 : ∀ z : Wd S, z.w.cell? ⟨hE, 0, none⟩ = some (.int .i64 4) := fun z => X0.out z.w (HB.out.trans ((hto z).mono HB.out.size))
  have yX1 : ∀ z : Wd S, z.w.cell? ⟨hE, 1, none⟩ = some (.int .i64 (k : Int)) := fun z => X1.out z.w (HB.out.trans ((hto z).mono HB.out.size))
  have yC0 : ∀ z : Wd S, z.w.cell? ⟨b, 0, none⟩ = some (.slice (some ⟨gB, oB, none⟩) B.length kB) := fun z => C0.out z.w (HB.out.trans ((hto z).mono HB.out.size))
  have Hof := Lib.hid hof
  clear hto hof
  refine lexW_light 23 (by kernel_rfl) ?_
  simp only [List.take_succ_cons, List.take_zero, List.drop_succ_cons, List.drop_zero]
  repeat (first | go_big_quiet_skip | (go_big_quiet_want; go_big_quiet_op; go_big_quiet_on))
  refine wpQuiet_nil ?_
  refine lexW_done ?_
  clear yX0 yX1 yC0
  have HB := Lib.hid (HB.out.trans ((Below.refl W0.heap.size W0).drew.mono HB.out.size))
  generalize W0.drew = W1 at *
  go_wp2_with fail
  refine wp_region_lexA ⟨[], []⟩ (fun x => Below W1.heap.size W1 x) (by kernel_rfl) (by kernel_rfl) (Below.refl _ _).drew ?_
  intro S hto hof hne
  have yX0 : ∀ z : Wd S, z.w.cell? ⟨hE, 0, none⟩ = some (.int .i64 4) := fun z => X0.out z.w (HB.out.trans ((hto z).mono HB.out.size))
  have yX2 : ∀ z : Wd S, z.w.cell? ⟨hE, 2, none⟩ = some (.int .i64 (j : Int)) := fun z => X2.out z.w (HB.out.trans ((hto z).mono HB.out.size))
  have yC1 : ∀ z : Wd S, z.w.cell? ⟨b, 1, none⟩ = some (.slice (some ⟨gM, oM, none⟩) M.length kM) := fun z => C1.out z.w (HB.out.trans ((hto z).mono HB.out.size))
  have Hof := Lib.hid hof
  clear hto hof
  refine lexW_light 18 (by kernel_rfl) ?_
  simp only [List.take_succ_cons, List.take_zero, List.drop_succ_cons, List.drop_zero]
  repeat (first | go_big_quiet_skip | (go_big_quiet_want; go_big_quiet_op; go_big_quiet_on))
  refine wpQuiet_nil ?_
  refine lexW_done ?_
  clear yX0 yX2 yC1
  have HB := Lib.hid (HB.out.trans ((Below.refl W1.heap.size W1).drew.mono HB.out.size))
  generalize W1.drew = W2 at *
  go_wp2_with fail
  refine wp_region_lexA ⟨[], []⟩ (fun x => Below W2.heap.size W2 x) (by kernel_rfl) (by kernel_rfl) (Below.refl _ _).drew ?_
  intro S hto hof hne
  have yC0 : ∀ z : Wd S, z.w.cell? ⟨b, 0, none⟩ = some (.slice (some ⟨gB, oB, none⟩) B.length kB) := fun z => C0.out z.w (HB.out.trans ((hto z).mono HB.out.size))
  have yX1 : ∀ z : Wd S, z.w.cell? ⟨hE, 1, none⟩ = some (.int .i64 (k : Int)) := fun z => X1.out z.w (HB.out.trans ((hto z).mono HB.out.size))
  have yE0 : ∀ z : Wd S, z.w.cell? ⟨gB, oB + k, none⟩ = some (.slice sd (x :: L).length cp) := fun z => E0.out z.w (HB.out.trans ((hto z).mono HB.out.size))
  have Hof := Lib.hid hof
  clear hto hof
  refine lexW_light 9 (by kernel_rfl) ?_
  simp only [List.take_succ_cons, List.take_zero, List.drop_succ_cons, List.drop_zero]
  repeat (first | go_big_quiet_skip | (go_big_quiet_want; go_big_quiet_op; go_big_quiet_on))
  refine wpQuiet_nil ?_
  refine lexW_done ?_
  clear yC0 yX1 yE0
  have HB := Lib.hid (HB.out.trans ((Below.refl W2.heap.size W2).drew.mono HB.out.size))
  generalize W2.drew = W3 at *
  have qX0 := X0.out _ HB.out
  obtain ⟨len, hlen⟩ : ∃ len, len = L.length + 1 := ⟨_, rfl⟩
  rw [← hlen]
  have hl1 : (0 : Int) < len := by omega
  have hl2 : 0 < len := by omega
  have hl3 : decide (0 < len) = true := by simp; omega
  clear hlen
  go_wp2_with fail
  go_ret
  exact ⟨rfl, HB0.out.trans (HB.out.mono HB0.out.size)⟩

set_option maxRecDepth 100000 in
set_option maxHeartbeats 4000000 in
theorem rcas_no (lo b : Nat) (vB vM : Value) (vs : List Value) (B : Bufs) (M : List Int) (k j : Nat) (m : Int) (va ne : Int) (dn : Bool) (w : World) (h : MdAt tyR w lo b vB vM vs B M) (hk : k < B.length) (hj : j < M.length) (hL : B.getD k [] = ([] : List (Int × Int))) (hm : M.getD j 0 = m) (hx : m ≠ va) :
    Calls Tryd.prog 21 #[.pointer (some ⟨b, 0, none⟩), .agg #[.int .i64 4, .int .i64 (k : Int), .int .i64 (j : Int), .int .u32 va, .int .u32 ne, .bool dn]] w fun ev w' => ev = .returned (.int .i64 10) ∧ Below w.heap.size w w' := by
  have g1 : decide ((k : Int) < 0) = false := by simp
  have g2 : decide ((k : Int) ≥ (B.length : Int)) = false := by simp; omega
  have g3 : decide (B.length ≤ k) = false := by simp; omega
  have g7 : decide ((j : Int) < 0) = false := by simp
  have g8 : decide ((j : Int) ≥ (M.length : Int)) = false := by simp; omega
  have g9 : decide (M.length ≤ j) = false := by simp; omega
  have HM := Lib.hid hm
  have gx : (m != va) = true := by simpa using hx
  clear hm hx
  obtain ⟨gB, oB, kB, sd, cp, rfl, hvk, e0, z0, hrow⟩ := h.buf hk
  rw [hL] at hvk e0 hrow
  obtain ⟨gM, oM, kM, rfl, e3, z3⟩ := h.mem hj
  have hX := heap_alloc_new w (.cells #[.int .i64 4, .int .i64 (k : Int), .int .i64 (j : Int), .int .u32 va, .int .u32 ne, .bool dn] 24)
  have hb0 : Below w.heap.size w (w.alloc (.cells #[.int .i64 4, .int .i64 (k : Int), .int .i64 (j : Int), .int .u32 va, .int .u32 ne, .bool dn] 24)) := (Below.refl _ _).alloc (Nat.le_refl _) _
  have HB0 := Lib.hid hb0
  have hh := h.below hb0
  have hbl := (hh.lt b (.inl rfl)).2
  obtain ⟨hE, hhE⟩ : ∃ hE, hE = w.heap.size := ⟨_, rfl⟩
  rw [← hhE] at hX
  generalize hW0 : w.alloc (.cells #[.int .i64 4, .int .i64 (k : Int), .int .i64 (j : Int), .int .u32 va, .int .u32 ne, .bool dn] 24) = W0 at *
  have HW0 := Lib.hid hW0
  have HHE := Lib.hid hhE
  have hxl := (Array.getElem?_eq_some_iff.1 hX).1
  have X0 := Lib.hid (show ∀ W, Below W0.heap.size W0 W → W.cell? ⟨hE, 0, none⟩ = some (.int .i64 4) from fun W hb => (hb.cell (p := ⟨hE, 0, none⟩) hxl).trans (cell_of hX 0))
  have X1 := Lib.hid (show ∀ W, Below W0.heap.size W0 W → W.cell? ⟨hE, 1, none⟩ = some (.int .i64 (k : Int)) from fun W hb => (hb.cell (p := ⟨hE, 1, none⟩) hxl).trans (cell_of hX 1))
  have X2 := Lib.hid (show ∀ W, Below W0.heap.size W0 W → W.cell? ⟨hE, 2, none⟩ = some (.int .i64 (j : Int)) from fun W hb => (hb.cell (p := ⟨hE, 2, none⟩) hxl).trans (cell_of hX 2))
  have X3 := Lib.hid (show ∀ W, Below W0.heap.size W0 W → W.cell? ⟨hE, 3, none⟩ = some (.int .u32 va) from fun W hb => (hb.cell (p := ⟨hE, 3, none⟩) hxl).trans (cell_of hX 3))
  have X4 := Lib.hid (show ∀ W, Below W0.heap.size W0 W → W.cell? ⟨hE, 4, none⟩ = some (.int .u32 ne) from fun W hb => (hb.cell (p := ⟨hE, 4, none⟩) hxl).trans (cell_of hX 4))
  have X5 := Lib.hid (show ∀ W, Below W0.heap.size W0 W → W.cell? ⟨hE, 5, none⟩ = some (.bool dn) from fun W hb => (hb.cell (p := ⟨hE, 5, none⟩) hxl).trans (cell_of hX 5))
  have C0 := Lib.hid (show ∀ W, Below W0.heap.size W0 W → W.cell? ⟨b, 0, none⟩ = some (.slice (some ⟨gB, oB, none⟩) B.length kB) from fun W hb => (hb.cell (p := ⟨b, 0, none⟩) hbl).trans (cell_of hh.blk 0))
  have C1 := Lib.hid (show ∀ W, Below W0.heap.size W0 W → W.cell? ⟨b, 1, none⟩ = some (.slice (some ⟨gM, oM, none⟩) M.length kM) from fun W hb => (hb.cell (p := ⟨b, 1, none⟩) hbl).trans (cell_of hh.blk 1))
  have hgB := (h.lt gB (.inr (.inl rfl))).2
  have E0 := Lib.hid (show ∀ W, Below W0.heap.size W0 W → W.cell? ⟨gB, oB + k, none⟩ = some (.slice sd (([] : List (Int × Int))).length cp) from fun W hb => (hb.cell (p := ⟨gB, oB + k, none⟩) (Nat.lt_of_lt_of_le hgB HB0.out.size)).trans ((HB0.out.cell (p := ⟨gB, oB + k, none⟩) hgB).trans e0))
  have Z0 := Lib.hid (show ∀ W, Below W0.heap.size W0 W → W.frozen? ⟨gB, oB + k, none⟩ = false from fun W hb => (World.frozen?_of_block (a := ⟨gB, oB + k, none⟩) ((hb.block gB (Nat.lt_of_lt_of_le hgB HB0.out.size)).trans (HB0.out.block gB hgB))).trans z0)
  have ROW := Lib.hid (show ∀ W, Below W0.heap.size W0 W → winRow W lo 87 2 (.slice sd (([] : List (Int × Int))).length cp) (([] : List (Int × Int))).length (flatW (([] : List (Int × Int)))) from fun W hb => (hrow.below HB0.out).below hb)
  have HVK := Lib.hid hvk
  have HGB := Lib.hid hgB
  have hkl : (k : Int) < B.length := by omega
  have HKK := Lib.hid hk
  clear e0 z0 hrow hvk hk hgB
  have hgM := (h.lt gM (.inr (.inr (.inl rfl)))).2
  have E3 := Lib.hid (show ∀ W, Below W0.heap.size W0 W → W.cell? ⟨gM, oM + j, none⟩ = some (.int .u32 (M.getD j 0)) from fun W hb => (hb.cell (p := ⟨gM, oM + j, none⟩) (Nat.lt_of_lt_of_le hgM HB0.out.size)).trans ((HB0.out.cell (p := ⟨gM, oM + j, none⟩) hgM).trans e3))
  have Z3 := Lib.hid (show ∀ W, Below W0.heap.size W0 W → W.frozen? ⟨gM, oM + j, none⟩ = false from fun W hb => (World.frozen?_of_block (a := ⟨gM, oM + j, none⟩) ((hb.block gM (Nat.lt_of_lt_of_le hgM HB0.out.size)).trans (HB0.out.block gM hgM))).trans z3)
  have HGM := Lib.hid hgM
  have hjl : (j : Int) < M.length := by omega
  have HJJ := Lib.hid hj
  clear e3 z3 hj hgM
  have HH := Lib.hid hh
  have HIN := Lib.hid h
  have HB := Lib.hid (Below.refl W0.heap.size W0)
  clear hX hb0 hh hbl hxl h hW0 hhE
  go_enter Tryd.func21, Tryd.ntmps21
  go_wp2_with fail
  rw [← HHE.out, HW0.out]
  refine wp_region_lexA ⟨[], []⟩ (fun x => Below W0.heap.size W0 x) (by kernel_rfl) (by kernel_rfl) (Below.refl _ _).drew ?_
  intro S hto hof hne
  have yX0 : ∀ z : Wd S, z.w.cell? ⟨hE, 0, none⟩ = some (.int .i64 4) := fun z => X0.out z.w (HB.out.trans ((hto z).mono HB.out.size))
  have yX1 : ∀ z : Wd S, z.w.cell? ⟨hE, 1, none⟩ = some (.int .i64 (k : Int)) := fun z => X1.out z.w (HB.out.trans ((hto z).mono HB.out.size))
  have yC0 : ∀ z : Wd S, z.w.cell? ⟨b, 0, none⟩ = some (.slice (some ⟨gB, oB, none⟩) B.length kB) := fun z => C0.out z.w (HB.out.trans ((hto z).mono HB.out.size))
  have Hof := Lib.hid hof
  clear hto hof
  refine lexW_light 23 (by kernel_rfl) ?_
  simp only [List.take_succ_cons, List.take_zero, List.drop_succ_cons, List.drop_zero]
  repeat (first | go_big_quiet_skip | (go_big_quiet_want; go_big_quiet_op; go_big_quiet_on))
  refine wpQuiet_nil ?_
  refine lexW_done ?_
  clear yX0 yX1 yC0
  have HB := Lib.hid (HB.out.trans ((Below.refl W0.heap.size W0).drew.mono HB.out.size))
  generalize W0.drew = W1 at *
  go_wp2_with fail
  refine wp_region_lexA ⟨[], []⟩ (fun x => Below W1.heap.size W1 x) (by kernel_rfl) (by kernel_rfl) (Below.refl _ _).drew ?_
  intro S hto hof hne
  have yX0 : ∀ z : Wd S, z.w.cell? ⟨hE, 0, none⟩ = some (.int .i64 4) := fun z => X0.out z.w (HB.out.trans ((hto z).mono HB.out.size))
  have yX2 : ∀ z : Wd S, z.w.cell? ⟨hE, 2, none⟩ = some (.int .i64 (j : Int)) := fun z => X2.out z.w (HB.out.trans ((hto z).mono HB.out.size))
  have yC1 : ∀ z : Wd S, z.w.cell? ⟨b, 1, none⟩ = some (.slice (some ⟨gM, oM, none⟩) M.length kM) := fun z => C1.out z.w (HB.out.trans ((hto z).mono HB.out.size))
  have Hof := Lib.hid hof
  clear hto hof
  refine lexW_light 18 (by kernel_rfl) ?_
  simp only [List.take_succ_cons, List.take_zero, List.drop_succ_cons, List.drop_zero]
  repeat (first | go_big_quiet_skip | (go_big_quiet_want; go_big_quiet_op; go_big_quiet_on))
  refine wpQuiet_nil ?_
  refine lexW_done ?_
  clear yX0 yX2 yC1
  have HB := Lib.hid (HB.out.trans ((Below.refl W1.heap.size W1).drew.mono HB.out.size))
  generalize W1.drew = W2 at *
  go_wp2_with fail
  refine wp_region_lexA ⟨[], []⟩ (fun x => Below W2.heap.size W2 x) (by kernel_rfl) (by kernel_rfl) (Below.refl _ _).drew ?_
  intro S hto hof hne
  have yC0 : ∀ z : Wd S, z.w.cell? ⟨b, 0, none⟩ = some (.slice (some ⟨gB, oB, none⟩) B.length kB) := fun z => C0.out z.w (HB.out.trans ((hto z).mono HB.out.size))
  have yX1 : ∀ z : Wd S, z.w.cell? ⟨hE, 1, none⟩ = some (.int .i64 (k : Int)) := fun z => X1.out z.w (HB.out.trans ((hto z).mono HB.out.size))
  have yE0 : ∀ z : Wd S, z.w.cell? ⟨gB, oB + k, none⟩ = some (.slice sd (([] : List (Int × Int))).length cp) := fun z => E0.out z.w (HB.out.trans ((hto z).mono HB.out.size))
  have Hof := Lib.hid hof
  clear hto hof
  refine lexW_light 9 (by kernel_rfl) ?_
  simp only [List.take_succ_cons, List.take_zero, List.drop_succ_cons, List.drop_zero]
  repeat (first | go_big_quiet_skip | (go_big_quiet_want; go_big_quiet_op; go_big_quiet_on))
  refine wpQuiet_nil ?_
  refine lexW_done ?_
  clear yC0 yX1 yE0
  have HB := Lib.hid (HB.out.trans ((Below.refl W2.heap.size W2).drew.mono HB.out.size))
  generalize W2.drew = W3 at *
  have qX0 := X0.out _ HB.out
  simp only [List.length_nil] at *
  go_wp2_with fail
  clear qX0
  refine wp_region_lexA ⟨[], []⟩ (fun x => Below W3.heap.size W3 x) (by kernel_rfl) (by kernel_rfl) (Below.refl _ _).drew ?_
  intro S hto hof hne
  have yC1 : ∀ z : Wd S, z.w.cell? ⟨b, 1, none⟩ = some (.slice (some ⟨gM, oM, none⟩) M.length kM) := fun z => C1.out z.w (HB.out.trans ((hto z).mono HB.out.size))
  have yX2 : ∀ z : Wd S, z.w.cell? ⟨hE, 2, none⟩ = some (.int .i64 (j : Int)) := fun z => X2.out z.w (HB.out.trans ((hto z).mono HB.out.size))
  have yE3 : ∀ z : Wd S, z.w.cell? ⟨gM, oM + j, none⟩ = some (.int .u32 (M.getD j 0)) := fun z => E3.out z.w (HB.out.trans ((hto z).mono HB.out.size))
  have yX3 : ∀ z : Wd S, z.w.cell? ⟨hE, 3, none⟩ = some (.int .u32 va) := fun z => X3.out z.w (HB.out.trans ((hto z).mono HB.out.size))
  rw [HM.out] at yE3
  have Hof := Lib.hid hof
  clear hto hof
  refine lexW_light 11 (by kernel_rfl) ?_
  simp only [List.take_succ_cons, List.take_zero, List.drop_succ_cons, List.drop_zero]
  repeat (first | go_big_quiet_skip | (go_big_quiet_want; go_big_quiet_op; go_big_quiet_on))
  refine wpQuiet_nil ?_
  refine lexW_done ?_
  clear yC1 yX2 yE3 yX3
  have HB := Lib.hid (HB.out.trans ((Below.refl W3.heap.size W3).drew.mono HB.out.size))
  generalize W3.drew = W4 at *
  go_wp2_with fail
  go_ret
  exact ⟨rfl, HB0.out.trans (HB.out.mono HB0.out.size)⟩

set_option maxRecDepth 100000 in
set_option maxHeartbeats 4000000 in
theorem rcas_okn (lo b : Nat) (vB vM : Value) (vs : List Value) (B : Bufs) (M : List Int) (k j : Nat) (va ne : Int) (w : World) (h : MdAt tyR w lo b vB vM vs B M) (hk : k < B.length) (hj : j < M.length) (hL : B.getD k [] = ([] : List (Int × Int))) (hm : M.getD j 0 = va) :
    Calls Tryd.prog 21 #[.pointer (some ⟨b, 0, none⟩), .agg #[.int .i64 4, .int .i64 (k : Int), .int .i64 (j : Int), .int .u32 va, .int .u32 ne, .bool false]] w fun ev w' => ev = .returned (.int .i64 0) ∧ Below w.heap.size w w' := by
  have g1 : decide ((k : Int) < 0) = false := by simp
  have g2 : decide ((k : Int) ≥ (B.length : Int)) = false := by simp; omega
  have g3 : decide (B.length ≤ k) = false := by simp; omega
  have g7 : decide ((j : Int) < 0) = false := by simp
  have g8 : decide ((j : Int) ≥ (M.length : Int)) = false := by simp; omega
  have g9 : decide (M.length ≤ j) = false := by simp; omega
  have HM := Lib.hid hm
  have gx : (va != va) = false := by simp
  clear hm
  obtain ⟨gB, oB, kB, sd, cp, rfl, hvk, e0, z0, hrow⟩ := h.buf hk
  rw [hL] at hvk e0 hrow
  obtain ⟨gM, oM, kM, rfl, e3, z3⟩ := h.mem hj
  have hX := heap_alloc_new w (.cells #[.int .i64 4, .int .i64 (k : Int), .int .i64 (j : Int), .int .u32 va, .int .u32 ne, .bool false] 24)
  have hb0 : Below w.heap.size w (w.alloc (.cells #[.int .i64 4, .int .i64 (k : Int), .int .i64 (j : Int), .int .u32 va, .int .u32 ne, .bool false] 24)) := (Below.refl _ _).alloc (Nat.le_refl _) _
  have HB0 := Lib.hid hb0
  have hh := h.below hb0
  have hbl := (hh.lt b (.inl rfl)).2
  obtain ⟨hE, hhE⟩ : ∃ hE, hE = w.heap.size := ⟨_, rfl⟩
  rw [← hhE] at hX
  generalize hW0 : w.alloc (.cells #[.int .i64 4, .int .i64 (k : Int), .int .i64 (j : Int), .int .u32 va, .int .u32 ne, .bool false] 24) = W0 at *
  have HW0 := Lib.hid hW0
  have HHE := Lib.hid hhE
  have hxl := (Array.getElem?_eq_some_iff.1 hX).1
  have X0 := Lib.hid (show ∀ W, Below W0.heap.size W0 W → W.cell? ⟨hE, 0, none⟩ = some (.int .i64 4) from fun W hb => (hb.cell (p := ⟨hE, 0, none⟩) hxl).trans (cell_of hX 0))
  have X1 := Lib.hid (show ∀ W, Below W0.heap.size W0 W → W.cell? ⟨hE, 1, none⟩ = some (.int .i64 (k : Int)) from fun W hb => (hb.cell (p := ⟨hE, 1, none⟩) hxl).trans (cell_of hX 1))
  have X2 := Lib.hid (show ∀ W, Below W0.heap.size W0 W → W.cell? ⟨hE, 2, none⟩ = some (.int .i64 (j : Int)) from fun W hb => (hb.cell (p := ⟨hE, 2, none⟩) hxl).trans (cell_of hX 2))
  have X3 := Lib.hid (show ∀ W, Below W0.heap.size W0 W → W.cell? ⟨hE, 3, none⟩ = some (.int .u32 va) from fun W hb => (hb.cell (p := ⟨hE, 3, none⟩) hxl).trans (cell_of hX 3))
  have X4 := Lib.hid (show ∀ W, Below W0.heap.size W0 W → W.cell? ⟨hE, 4, none⟩ = some (.int .u32 ne) from fun W hb => (hb.cell (p := ⟨hE, 4, none⟩) hxl).trans (cell_of hX 4))
  have X5 := Lib.hid (show ∀ W, Below W0.heap.size W0 W → W.cell? ⟨hE, 5, none⟩ = some (.bool false) from fun W hb => (hb.cell (p := ⟨hE, 5, none⟩) hxl).trans (cell_of hX 5))
  have C0 := Lib.hid (show ∀ W, Below W0.heap.size W0 W → W.cell? ⟨b, 0, none⟩ = some (.slice (some ⟨gB, oB, none⟩) B.length kB) from fun W hb => (hb.cell (p := ⟨b, 0, none⟩) hbl).trans (cell_of hh.blk 0))
  have C1 := Lib.hid (show ∀ W, Below W0.heap.size W0 W → W.cell? ⟨b, 1, none⟩ = some (.slice (some ⟨gM, oM, none⟩) M.length kM) from fun W hb => (hb.cell (p := ⟨b, 1, none⟩) hbl).trans (cell_of hh.blk 1))
  have hgB := (h.lt gB (.inr (.inl rfl))).2
  have E0 := Lib.hid (show ∀ W, Below W0.heap.size W0 W → W.cell? ⟨gB, oB + k, none⟩ = some (.slice sd (([] : List (Int × Int))).length cp) from fun W hb => (hb.cell (p := ⟨gB, oB + k, none⟩) (Nat.lt_of_lt_of_le hgB HB0.out.size)).trans ((HB0.out.cell (p := ⟨gB, oB + k, none⟩) hgB).trans e0))
  have Z0 := Lib.hid (show ∀ W, Below W0.heap.size W0 W → W.frozen? ⟨gB, oB + k, none⟩ = false from fun W hb => (World.frozen?_of_block (a := ⟨gB, oB + k, none⟩) ((hb.block gB (Nat.lt_of_lt_of_le hgB HB0.out.size)).trans (HB0.out.block gB hgB))).trans z0)
  have ROW := Lib.hid (show ∀ W, Below W0.heap.size W0 W → winRow W lo 87 2 (.slice sd (([] : List (Int × Int))).length cp) (([] : List (Int × Int))).length (flatW (([] : List (Int × Int)))) from fun W hb => (hrow.below HB0.out).below hb)
  have HVK := Lib.hid hvk
  have HGB := Lib.hid hgB
  have hkl : (k : Int) < B.length := by omega
  have HKK := Lib.hid hk
  clear e0 z0 hrow hvk hk hgB
  have hgM := (h.lt gM (.inr (.inr (.inl rfl)))).2
  have E3 := Lib.hid (show ∀ W, Below W0.heap.size W0 W → W.cell? ⟨gM, oM + j, none⟩ = some (.int .u32 (M.getD j 0)) from fun W hb => (hb.cell (p := ⟨gM, oM + j, none⟩) (Nat.lt_of_lt_of_le hgM HB0.out.size)).trans ((HB0.out.cell (p := ⟨gM, oM + j, none⟩) hgM).trans e3))
  have Z3 := Lib.hid (show ∀ W, Below W0.heap.size W0 W → W.frozen? ⟨gM, oM + j, none⟩ = false from fun W hb => (World.frozen?_of_block (a := ⟨gM, oM + j, none⟩) ((hb.block gM (Nat.lt_of_lt_of_le hgM HB0.out.size)).trans (HB0.out.block gM hgM))).trans z3)
  have HGM := Lib.hid hgM
  have hjl : (j : Int) < M.length := by omega
  have HJJ := Lib.hid hj
  clear e3 z3 hj hgM
  have HH := Lib.hid hh
  have HIN := Lib.hid h
  have HB := Lib.hid (Below.refl W0.heap.size W0)
  clear hX hb0 hh hbl hxl h hW0 hhE
  go_enter Tryd.func21, Tryd.ntmps21
  go_wp2_with fail
  rw [← HHE.out, HW0.out]
  refine wp_region_lexA ⟨[], []⟩ (fun x => Below W0.heap.size W0 x) (by kernel_rfl) (by kernel_rfl) (Below.refl _ _).drew ?_
  intro S hto hof hne
  have yX0 : ∀ z : Wd S, z.w.cell? ⟨hE, 0, none⟩ = some (.int .i64 4) := fun z => X0.out z.w (HB.out.trans ((hto z).mono HB.out.size))
  have yX1 : ∀ z : Wd S, z.w.cell? ⟨hE, 1, none⟩ = some (.int .i64 (k : Int)) := fun z => X1.out z.w (HB.out.trans ((hto z).mono HB.out.size))
  have yC0 : ∀ z : Wd S, z.w.cell? ⟨b, 0, none⟩ = some (.slice (some ⟨gB, oB, none⟩) B.length kB) := fun z => C0.out z.w (HB.out.trans ((hto z).mono HB.out.size))
  have Hof := Lib.hid hof
  clear hto hof
  refine lexW_light 23 (by kernel_rfl) ?_
  simp only [List.take_succ_cons, List.take_zero, List.drop_succ_cons, List.drop_zero]
  repeat (first | go_big_quiet_skip | (go_big_quiet_want; go_big_quiet_op; go_big_quiet_on))
  refine wpQuiet_nil ?_
  refine lexW_done ?_
  clear yX0 yX1 yC0
  have HB := Lib.hid (HB.out.trans ((Below.refl W0.heap.size W0).drew.mono HB.out.size))
  generalize W0.drew = W1 at *
  go_wp2_with fail
  refine wp_region_lexA ⟨[], []⟩ (fun x => Below W1.heap.size W1 x) (by kernel_rfl) (by kernel_rfl) (Below.refl _ _).drew ?_
  intro S hto hof hne
  have yX0 : ∀ z : Wd S, z.w.cell? ⟨hE, 0, none⟩ = some (.int .i64 4) := fun z => X0.out z.w (HB.out.trans ((hto z).mono HB.out.size))
  have yX2 : ∀ z : Wd S, z.w.cell? ⟨hE, 2, none⟩ = some (.int .i64 (j : Int)) := fun z => X2.out z.w (HB.out.trans ((hto z).mono HB.out.size))
  have yC1 : ∀ z : Wd S, z.w.cell? ⟨b, 1, none⟩ = some (.slice (some ⟨gM, oM, none⟩) M.length kM) := fun z => C1.out z.w (HB.out.trans ((hto z).mono HB.out.size))
  have Hof := Lib.hid hof
  clear hto hof
  refine lexW_light 18 (by kernel_rfl) ?_
  simp only [List.take_succ_cons, List.take_zero, List.drop_succ_cons, List.drop_zero]
  repeat (first | go_big_quiet_skip | (go_big_quiet_want; go_big_quiet_op; go_big_quiet_on))
  refine wpQuiet_nil ?_
  refine lexW_done ?_
  clear yX0 yX2 yC1
  have HB := Lib.hid (HB.out.trans ((Below.refl W1.heap.size W1).drew.mono HB.out.size))
  generalize W1.drew = W2 at *
  go_wp2_with fail
  refine wp_region_lexA ⟨[], []⟩ (fun x => Below W2.heap.size W2 x) (by kernel_rfl) (by kernel_rfl) (Below.refl _ _).drew ?_
  intro S hto hof hne
  have yC0 : ∀ z : Wd S, z.w.cell? ⟨b, 0, none⟩ = some (.slice (some ⟨gB, oB, none⟩) B.length kB) := fun z => C0.out z.w (HB.out.trans ((hto z).mono HB.out.size))
  have yX1 : ∀ z : Wd S, z.w.cell? ⟨hE, 1, none⟩ = some (.int .i64 (k : Int)) := fun z => X1.out z.w (HB.out.trans ((hto z).mono HB.out.size))
  have yE0 : ∀ z : Wd S, z.w.cell? ⟨gB, oB + k, none⟩ = some (.slice sd (([] : List (Int × Int))).length cp) := fun z => E0.out z.w (HB.out.trans ((hto z).mono HB.out.size))
  have Hof := Lib.hid hof
  clear hto hof
  refine lexW_light 9 (by kernel_rfl) ?_
  simp only [List.take_succ_cons, List.take_zero, List.drop_succ_cons, List.drop_zero]
  repeat (first | go_big_quiet_skip | (go_big_quiet_want; go_big_quiet_op; go_big_quiet_on))
  refine wpQuiet_nil ?_
  refine lexW_done ?_
  clear yC0 yX1 yE0
  have HB := Lib.hid (HB.out.trans ((Below.refl W2.heap.size W2).drew.mono HB.out.size))
  generalize W2.drew = W3 at *
  have qX0 := X0.out _ HB.out
  simp only [List.length_nil] at *
  go_wp2_with fail
  clear qX0
  refine wp_region_lexA ⟨[], []⟩ (fun x => Below W3.heap.size W3 x) (by kernel_rfl) (by kernel_rfl) (Below.refl _ _).drew ?_
  intro S hto hof hne
  have yC1 : ∀ z : Wd S, z.w.cell? ⟨b, 1, none⟩ = some (.slice (some ⟨gM, oM, none⟩) M.length kM) := fun z => C1.out z.w (HB.out.trans ((hto z).mono HB.out.size))
  have yX2 : ∀ z : Wd S, z.w.cell? ⟨hE, 2, none⟩ = some (.int .i64 (j : Int)) := fun z => X2.out z.w (HB.out.trans ((hto z).mono HB.out.size))
  have yE3 : ∀ z : Wd S, z.w.cell? ⟨gM, oM + j, none⟩ = some (.int .u32 (M.getD j 0)) := fun z => E3.out z.w (HB.out.trans ((hto z).mono HB.out.size))
  have yX3 : ∀ z : Wd S, z.w.cell? ⟨hE, 3, none⟩ = some (.int .u32 va) := fun z => X3.out z.w (HB.out.trans ((hto z).mono HB.out.size))
  rw [HM.out] at yE3
  have Hof := Lib.hid hof
  clear hto hof
  refine lexW_light 11 (by kernel_rfl) ?_
  simp only [List.take_succ_cons, List.take_zero, List.drop_succ_cons, List.drop_zero]
  repeat (first | go_big_quiet_skip | (go_big_quiet_want; go_big_quiet_op; go_big_quiet_on))
  refine wpQuiet_nil ?_
  refine lexW_done ?_
  clear yC1 yX2 yE3 yX3
  have HB := Lib.hid (HB.out.trans ((Below.refl W3.heap.size W3).drew.mono HB.out.size))
  generalize W3.drew = W4 at *
  have qX5 := X5.out _ HB.out
  go_wp2_with fail
  go_ret
  exact ⟨rfl, HB0.out.trans (HB.out.mono HB0.out.size)⟩

set_option maxRecDepth 100000 in
set_option maxHeartbeats 4000000 in
theorem rfence_full (lo b : Nat) (vB vM : Value) (vs : List Value) (B : Bufs) (M : List Int) (k : Nat) (ad : Int) (x : Int × Int) (L : List (Int × Int)) (va ne : Int) (dn : Bool) (w : World) (h : MdAt tyR w lo b vB vM vs B M) (hk : k < B.length) (hL : B.getD k [] = x :: L) :
    Calls Tryd.prog 21 #[.pointer (some ⟨b, 0, none⟩), .agg #[.int .i64 5, .int .i64 (k : Int), .int .i64 ad, .int .u32 va, .int .u32 ne, .bool dn]] w fun ev w' => ev = .returned (.int .i64 9) ∧ Below w.heap.size w w' := by
  have g1 : decide ((k : Int) < 0) = false := by simp
  have g2 : decide ((k : Int) ≥ (B.length : Int)) = false := by simp; omega
  have g3 : decide (B.length ≤ k) = false := by simp; omega
  obtain ⟨gB, oB, kB, sd, cp, rfl, hvk, e0, z0, hrow⟩ := h.buf hk
  rw [hL] at hvk e0 hrow
  obtain ⟨aM, kM, rfl⟩ := h.rowM.len
  have hX := heap_alloc_new w (.cells #[.int .i64 5, .int .i64 (k : Int), .int .i64 ad, .int .u32 va, .int .u32 ne, .bool dn] 24)
  have hb0 : Below w.heap.size w (w.alloc (.cells #[.int .i64 5, .int .i64 (k : Int), .int .i64 ad, .int .u32 va, .int .u32 ne, .bool dn] 24)) := (Below.refl _ _).alloc (Nat.le_refl _) _
  have HB0 := Lib.hid hb0
  have hh := h.below hb0
  have hbl := (hh.lt b (.inl rfl)).2
  obtain ⟨hE, hhE⟩ : ∃ hE, hE = w.heap.size := ⟨_, rfl⟩
  rw [← hhE] at hX
  generalize hW0 : w.alloc (.cells #[.int .i64 5, .int .i64 (k : Int), .int .i64 ad, .int .u32 va, .int .u32 ne, .bool dn] 24) = W0 at *
  have HW0 := Lib.hid hW0
  have HHE := Lib.hid hhE
  have hxl := (Array.getElem?_eq_some_iff.1 hX).1
  have X0 := Lib.hid (show ∀ W, Below W0.heap.size W0 W → W.cell? ⟨hE, 0, none⟩ = some (.int .i64 5) from fun W hb => (hb.cell (p := ⟨hE, 0, none⟩) hxl).trans (cell_of hX 0))
  have X1 := Lib.hid (show ∀ W, Below W0.heap.size W0 W → W.cell? ⟨hE, 1, none⟩ = some (.int .i64 (k : Int)) from fun W hb => (hb.cell (p := ⟨hE, 1, none⟩) hxl).trans (cell_of hX 1))
  have X2 := Lib.hid (show ∀ W, Below W0.heap.size W0 W → W.cell? ⟨hE, 2, none⟩ = some (.int .i64 ad) from fun W hb => (hb.cell (p := ⟨hE, 2, none⟩) hxl).trans (cell_of hX 2))
  have X3 := Lib.hid (show ∀ W, Below W0.heap.size W0 W → W.cell? ⟨hE, 3, none⟩ = some (.int .u32 va) from fun W hb => (hb.cell (p := ⟨hE, 3, none⟩) hxl).trans (cell_of hX 3))
  have X4 := Lib.hid (show ∀ W, Below W0.heap.size W0 W → W.cell? ⟨hE, 4, none⟩ = some (.int .u32 ne) from fun W hb => (hb.cell (p := ⟨hE, 4, none⟩) hxl).trans (cell_of hX 4))
  have X5 := Lib.hid (show ∀ W, Below W0.heap.size W0 W → W.cell? ⟨hE, 5, none⟩ = some (.bool dn) from fun W hb => (hb.cell (p := ⟨hE, 5, none⟩) hxl).trans (cell_of hX 5))
  have C0 := Lib.hid (show ∀ W, Below W0.heap.size W0 W → W.cell? ⟨b, 0, none⟩ = some (.slice (some ⟨gB, oB, none⟩) B.length kB) from fun W hb => (hb.cell (p := ⟨b, 0, none⟩) hbl).trans (cell_of hh.blk 0))
  have C1 := Lib.hid (show ∀ W, Below W0.heap.size W0 W → W.cell? ⟨b, 1, none⟩ = some (.slice aM M.length kM) from fun W hb => (hb.cell (p := ⟨b, 1, none⟩) hbl).trans (cell_of hh.blk 1))
  have hgB := (h.lt gB (.inr (.inl rfl))).2
  have E0 := Lib.hid (show ∀ W, Below W0.heap.size W0 W → W.cell? ⟨gB, oB + k, none⟩ = some (.slice sd (x :: L).length cp) from fun W hb => (hb.cell (p := ⟨gB, oB + k, none⟩) (Nat.lt_of_lt_of_le hgB HB0.out.size)).trans ((HB0.out.cell (p := ⟨gB, oB + k, none⟩) hgB).trans e0))
  have Z0 := Lib.hid (show ∀ W, Below W0.heap.size W0 W → W.frozen? ⟨gB, oB + k, none⟩ = false from fun W hb => (World.frozen?_of_block (a := ⟨gB, oB + k, none⟩) ((hb.block gB (Nat.lt_of_lt_of_le hgB HB0.out.size)).trans (HB0.out.block gB hgB))).trans z0)
  have ROW := Lib.hid (show ∀ W, Below W0.heap.size W0 W → winRow W lo 87 2 (.slice sd (x :: L).length cp) (x :: L).length (flatW (x :: L)) from fun W hb => (hrow.below HB0.out).below hb)
  have HVK := Lib.hid hvk
  have HGB := Lib.hid hgB
  have hkl : (k : Int) < B.length := by omega
  have HKK := Lib.hid hk
  clear e0 z0 hrow hvk hk hgB
  have HH := Lib.hid hh
  have HIN := Lib.hid h
  have HB := Lib.hid (Below.refl W0.heap.size W0)
  clear hX hb0 hh hbl hxl h hW0 hhE
  go_enter Tryd.func21, Tryd.ntmps21
  go_wp2_with fail
  rw [← HHE.out, HW0.out]
  refine wp_region_lexA ⟨[], []⟩ (fun x => Below W0.heap.size W0 x) (by kernel_rfl) (by kernel_rfl) (Below.refl _ _).drew ?_
  intro S hto hof hne
  have yX0 : ∀ z : Wd S, z.w.cell? ⟨hE, 0, none⟩ = some (.int .i64 5) := fun z => X0.out z.w (HB.out.trans ((hto z).mono HB.out.size))
  have yX1 : ∀ z : Wd S, z.w.cell? ⟨hE, 1, none⟩ = some (.int .i64 (k : Int)) := fun z => X1.out z.w (HB.out.trans ((hto z).mono HB.out.size))
  have yC0 : ∀ z : Wd S, z.w.cell? ⟨b, 0, none⟩ = some (.slice (some ⟨gB, oB, none⟩) B.length kB) := fun z => C0.out z.w (HB.out.trans ((hto z).mono HB.out.size))
  have Hof := Lib.hid hof
  clear hto hof
  refine lexW_light 23 (by kernel_rfl) ?_
  simp only [List.take_succ_cons, List.take_zero, List.drop_succ_cons, List.drop_zero]
  repeat (first | go_big_quiet_skip | (go_big_quiet_want; go_big_quiet_op; go_big_quiet_on))
  refine wpQuiet_nil ?_
  refine lexW_done ?_
  clear yX0 yX1 yC0
  have HB := Lib.hid (HB.out.trans ((Below.refl W0.heap.size W0).drew.mono HB.out.size))
  generalize W0.drew = W1 at *
  go_wp2_with fail
  refine wp_region_lexA ⟨[], []⟩ (fun x => Below W1.heap.size W1 x) (by kernel_rfl) (by kernel_rfl) (Below.refl _ _).drew ?_
  intro S hto hof hne
  have yX0 : ∀ z : Wd S, z.w.cell? ⟨hE, 0, none⟩ = some (.int .i64 5) := fun z => X0.out z.w (HB.out.trans ((hto z).mono HB.out.size))
  have Hof := Lib.hid hof
  clear hto hof
  refine lexW_light 18 (by kernel_rfl) ?_
  simp only [List.take_succ_cons, List.take_zero, List.drop_succ_cons, List.drop_zero]
  repeat (first | go_big_quiet_skip | (go_big_quiet_want; go_big_quiet_op; go_big_quiet_on))
  refine wpQuiet_nil ?_
  refine lexW_done ?_
  clear yX0
  have HB := Lib.hid (HB.out.trans ((Below.refl W1.heap.size W1).drew.mono HB.out.size))
  generalize W1.drew = W2 at *
  go_wp2_with fail
  refine wp_region_lexA ⟨[], []⟩ (fun x => Below W2.heap.size W2 x) (by kernel_rfl) (by kernel_rfl) (Below.refl _ _).drew ?_
  intro S hto hof hne
  have yC0 : ∀ z : Wd S, z.w.cell? ⟨b, 0, none⟩ = some (.slice (some ⟨gB, oB, none⟩) B.length kB) := fun z => C0.out z.w (HB.out.trans ((hto z).mono HB.out.size))
  have yX1 : ∀ z : Wd S, z.w.cell? ⟨hE, 1, none⟩ = some (.int .i64 (k : Int)) := fun z => X1.out z.w (HB.out.trans ((hto z).mono HB.out.size))
  have yE0 : ∀ z : Wd S, z.w.cell? ⟨gB, oB + k, none⟩ = some (.slice sd (x :: L).length cp) := fun z => E0.out z.w (HB.out.trans ((hto z).mono HB.out.size))
  have Hof := Lib.hid hof
  clear hto hof
  refine lexW_light 9 (by kernel_rfl) ?_
  simp only [List.take_succ_cons, List.take_zero, List.drop_succ_cons, List.drop_zero]
  repeat (first | go_big_quiet_skip | (go_big_quiet_want; go_big_quiet_op; go_big_quiet_on))
  refine wpQuiet_nil ?_
  refine lexW_done ?_
  clear yC0 yX1 yE0
  have HB := Lib.hid (HB.out.trans ((Below.refl W2.heap.size W2).drew.mono HB.out.size))
  generalize W2.drew = W3 at *
  have qX0 := X0.out _ HB.out
  obtain ⟨len, hlen⟩ : ∃ len, len = L.length + 1 := ⟨_, rfl⟩
  rw [← hlen]
  have hl1 : (0 : Int) < len := by omega
  have hl2 : 0 < len := by omega
  have hl3 : decide (0 < len) = true := by simp; omega
  clear hlen
  go_wp2_with fail
  go_ret
  exact ⟨rfl, HB0.out.trans (HB.out.mono HB0.out.size)⟩

set_option maxRecDepth 100000 in
set_option maxHeartbeats 4000000 in
theorem rfence_ok (lo b : Nat) (vB vM : Value) (vs : List Value) (B : Bufs) (M : List Int) (k : Nat) (ad : Int) (va ne : Int) (dn : Bool) (w : World) (h : MdAt tyR w lo b vB vM vs B M) (hk : k < B.length) (hL : B.getD k [] = ([] : List (Int × Int))) :
    Calls Tryd.prog 21 #[.pointer (some ⟨b, 0, none⟩), .agg #[.int .i64 5, .int .i64 (k : Int), .int .i64 ad, .int .u32 va, .int .u32 ne, .bool dn]] w fun ev w' => ev = .returned (.int .i64 0) ∧ Below w.heap.size w w' := by
  have g1 : decide ((k : Int) < 0) = false := by simp
  have g2 : decide ((k : Int) ≥ (B.length : Int)) = false := by simp; omega
  have g3 : decide (B.length ≤ k) = false := by simp; omega
  obtain ⟨gB, oB, kB, sd, cp, rfl, hvk, e0, z0, hrow⟩ := h.buf hk
  rw [hL] at hvk e0 hrow
  obtain ⟨aM, kM, rfl⟩ := h.rowM.len
  have hX := heap_alloc_new w (.cells #[.int .i64 5, .int .i64 (k : Int), .int .i64 ad, .int .u32 va, .int .u32 ne, .bool dn] 24)
  have hb0 : Below w.heap.size w (w.alloc (.cells #[.int .i64 5, .int .i64 (k : Int), .int .i64 ad, .int .u32 va, .int .u32 ne, .bool dn] 24)) := (Below.refl _ _).alloc (Nat.le_refl _) _
  have HB0 := Lib.hid hb0
  have hh := h.below hb0
  have hbl := (hh.lt b (.inl rfl)).2
  obtain ⟨hE, hhE⟩ : ∃ hE, hE = w.heap.size := ⟨_, rfl⟩
  rw [← hhE] at hX
  generalize hW0 : w.alloc (.cells #[.int .i64 5, .int .i64 (k : Int), .int .i64 ad, .int .u32 va, .int .u32 ne, .bool dn] 24) = W0 at *
  have HW0 := Lib.hid hW0
  have HHE := Lib.hid hhE
  have hxl := (Array.getElem?_eq_some_iff.1 hX).1
  have X0 := Lib.hid (show ∀ W, Below W0.heap.size W0 W → W.cell? ⟨hE, 0, none⟩ = some (.int .i64 5) from fun W hb => (hb.cell (p := ⟨hE, 0, none⟩) hxl).trans (cell_of hX 0))
  have X1 := Lib.hid (show ∀ W, Below W0.heap.size W0 W → W.cell? ⟨hE, 1, none⟩ = some (.int .i64 (k : Int)) from fun W hb => (hb.cell (p := ⟨hE, 1, none⟩) hxl).trans (cell_of hX 1))
  have X2 := Lib.hid (show ∀ W, Below W0.heap.size W0 W → W.cell? ⟨hE, 2, none⟩ = some (.int .i64 ad) from fun W hb => (hb.cell (p := ⟨hE, 2, none⟩) hxl).trans (cell_of hX 2))
  have X3 := Lib.hid (show ∀ W, Below W0.heap.size W0 W → W.cell? ⟨hE, 3, none⟩ = some (.int .u32 va) from fun W hb => (hb.cell (p := ⟨hE, 3, none⟩) hxl).trans (cell_of hX 3))
  have X4 := Lib.hid (show ∀ W, Below W0.heap.size W0 W → W.cell? ⟨hE, 4, none⟩ = some (.int .u32 ne) from fun W hb => (hb.cell (p := ⟨hE, 4, none⟩) hxl).trans (cell_of hX 4))
  have X5 := Lib.hid (show ∀ W, Below W0.heap.size W0 W → W.cell? ⟨hE, 5, none⟩ = some (.bool dn) from fun W hb => (hb.cell (p := ⟨hE, 5, none⟩) hxl).trans (cell_of hX 5))
  have C0 := Lib.hid (show ∀ W, Below W0.heap.size W0 W → W.cell? ⟨b, 0, none⟩ = some (.slice (some ⟨gB, oB, none⟩) B.length kB) from fun W hb => (hb.cell (p := ⟨b, 0, none⟩) hbl).trans (cell_of hh.blk 0))
  have C1 := Lib.hid (show ∀ W, Below W0.heap.size W0 W → W.cell? ⟨b, 1, none⟩ = some (.slice aM M.length kM) from fun W hb => (hb.cell (p := ⟨b, 1, none⟩) hbl).trans (cell_of hh.blk 1))
  have hgB := (h.lt gB (.inr (.inl rfl))).2
  have E0 := Lib.hid (show ∀ W, Below W0.heap.size W0 W → W.cell? ⟨gB, oB + k, none⟩ = some (.slice sd (([] : List (Int × Int))).length cp) from fun W hb => (hb.cell (p := ⟨gB, oB + k, none⟩) (Nat.lt_of_lt_of_le hgB HB0.out.size)).trans ((HB0.out.cell (p := ⟨gB, oB + k, none⟩) hgB).trans e0))
  have Z0 := Lib.hid (show ∀ W, Below W0.heap.size W0 W → W.frozen? ⟨gB, oB + k, none⟩ = false from fun W hb => (World.frozen?_of_block (a := ⟨gB, oB + k, none⟩) ((hb.block gB (Nat.lt_of_lt_of_le hgB HB0.out.size)).trans (HB0.out.block gB hgB))).trans z0)
  have ROW := Lib.hid (show ∀ W, Below W0.heap.size W0 W → winRow W lo 87 2 (.slice sd (([] : List (Int × Int))).length cp) (([] : List (Int × Int))).length (flatW (([] : List (Int × Int)))) from fun W hb => (hrow.below HB0.out).below hb)
  have HVK := Lib.hid hvk
  have HGB := Lib.hid hgB
  have hkl : (k : Int) < B.length := by omega
  have HKK := Lib.hid hk
  clear e0 z0 hrow hvk hk hgB
  have HH := Lib.hid hh
  have HIN := Lib.hid h
  have HB := Lib.hid (Below.refl W0.heap.size W0)
  clear hX hb0 hh hbl hxl h hW0 hhE
  go_enter Tryd.func21, Tryd.ntmps21
  go_wp2_with fail
  rw [← HHE.out, HW0.out]
  refine wp_region_lexA ⟨[], []⟩ (fun x => Below W0.heap.size W0 x) (by kernel_rfl) (by kernel_rfl) (Below.refl _ _).drew ?_
  intro S hto hof hne
  have yX0 : ∀ z : Wd S, z.w.cell? ⟨hE, 0, none⟩ = some (.int .i64 5) := fun z => X0.out z.w (HB.out.trans ((hto z).mono HB.out.size))
  have yX1 : ∀ z : Wd S, z.w.cell? ⟨hE, 1, none⟩ = some (.int .i64 (k : Int)) := fun z => X1.out z.w (HB.out.trans ((hto z).mono HB.out.size))
  have yC0 : ∀ z : Wd S, z.w.cell? ⟨b, 0, none⟩ = some (.slice (some ⟨gB, oB, none⟩) B.length kB) := fun z => C0.out z.w (HB.out.trans ((hto z).mono HB.out.size))
  have Hof := Lib.hid hof
  clear hto hof
  refine lexW_light 23 (by kernel_rfl) ?_
  simp only [List.take_succ_cons, List.take_zero, List.drop_succ_cons, List.drop_zero]
  repeat (first | go_big_quiet_skip | (go_big_quiet_want; go_big_quiet_op; go_big_quiet_on))
  refine wpQuiet_nil ?_
  refine lexW_done ?_
  clear yX0 yX1 yC0
  have HB := Lib.hid (HB.out.trans ((Below.refl W0.heap.size W0).drew.mono HB.out.size))
  generalize W0.drew = W1 at *
  go_wp2_with fail
  refine wp_region_lexA ⟨[], []⟩ (fun x => Below W1.heap.size W1 x) (by kernel_rfl) (by kernel_rfl) (Below.refl _ _).drew ?_
  intro S hto hof hne
  have yX0 : ∀ z : Wd S, z.w.cell? ⟨hE, 0, none⟩ = some (.int .i64 5) := fun z => X0.out z.w (HB.out.trans ((hto z).mono HB.out.size))
  have Hof := Lib.hid hof
  clear hto hof
  refine lexW_light 18 (by kernel_rfl) ?_
  simp only [List.take_succ_cons, List.take_zero, List.drop_succ_cons, List.drop_zero]
  repeat (first | go_big_quiet_skip | (go_big_quiet_want; go_big_quiet_op; go_big_quiet_on))
  refine wpQuiet_nil ?_
  refine lexW_done ?_
  clear yX0
  have HB := Lib.hid (HB.out.trans ((Below.refl W1.heap.size W1).drew.mono HB.out.size))
  generalize W1.drew = W2 at *
  go_wp2_with fail
  refine wp_region_lexA ⟨[], []⟩ (fun x => Below W2.heap.size W2 x) (by kernel_rfl) (by kernel_rfl) (Below.refl _ _).drew ?_
  intro S hto hof hne
  have yC0 : ∀ z : Wd S, z.w.cell? ⟨b, 0, none⟩ = some (.slice (some ⟨gB, oB, none⟩) B.length kB) := fun z => C0.out z.w (HB.out.trans ((hto z).mono HB.out.size))
  have yX1 : ∀ z : Wd S, z.w.cell? ⟨hE, 1, none⟩ = some (.int .i64 (k : Int)) := fun z => X1.out z.w (HB.out.trans ((hto z).mono HB.out.size))
  have yE0 : ∀ z : Wd S, z.w.cell? ⟨gB, oB + k, none⟩ = some (.slice sd (([] : List (Int × Int))).length cp) := fun z => E0.out z.w (HB.out.trans ((hto z).mono HB.out.size))
  have Hof := Lib.hid hof
  clear hto hof
  refine lexW_light 9 (by kernel_rfl) ?_
  simp only [List.take_succ_cons, List.take_zero, List.drop_succ_cons, List.drop_zero]
  repeat (first | go_big_quiet_skip | (go_big_quiet_want; go_big_quiet_op; go_big_quiet_on))
  refine wpQuiet_nil ?_
  refine lexW_done ?_
  clear yC0 yX1 yE0
  have HB := Lib.hid (HB.out.trans ((Below.refl W2.heap.size W2).drew.mono HB.out.size))
  generalize W2.drew = W3 at *
  have qX0 := X0.out _ HB.out
  simp only [List.length_nil] at *
  go_wp2_with fail
  go_ret
  exact ⟨rfl, HB0.out.trans (HB.out.mono HB0.out.size)⟩

end Go.Proofs.YtamklohnmbgklaaDoor
