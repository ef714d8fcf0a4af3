/- The laws' fit: an event made such as the document's model may do. -/
import Derived.Test.YtamklohnmbgklaaDoorRTs4
namespace Go.Proofs.YtamklohnmbgklaaDoor
open Go.RowKit Go.Extern.Stop Go.Stop Go.Extern

/-- An event that the model may do, if its core may do such a one. -/
def fitE (B : Bufs) (M : List Int) (e : Ev) : Ev :=
  if okC B e.core ∧ okA M e.addr then
    (if e.kind = 1 then { e with val := rdS B M e.core e.addr }
    else if e.kind = 3 then (match B.getD e.core.toNat [] with | [] => e | x :: _ => { e with addr := x.1, val := x.2 })
    else if e.kind = 4 then { e with val := M.getD e.addr.toNat 0 }
    else e)
  else e

set_option maxRecDepth 100000 in
set_option maxHeartbeats 8000000 in
theorem fit_b1 (lo b : Nat) (vB vM : Value) (vs : List Value) (B : Bufs) (M : List Int) (kd co ad : Int) (va ne : Int) (dn : Bool) (w : World) (h : MdAt tyR w lo b vB vM vs B M) (hco : co < 0) :
    Calls Tryd.prog 20 #[.pointer (some ⟨b, 0, none⟩), .agg #[.int .i64 kd, .int .i64 co, .int .i64 ad, .int .u32 va, .int .u32 ne, .bool dn]] w fun ev w' => ev = .returned (.agg #[.int .i64 kd, .int .i64 co, .int .i64 ad, .int .u32 va, .int .u32 ne, .bool dn]) ∧ Below w.heap.size w w' := by
  have g1 : decide (co < 0) = true := by simpa using hco
  clear hco
  obtain ⟨aB, kB, rfl⟩ := h.rowB.len
  obtain ⟨aM, kM, rfl⟩ := h.rowM.len
  have hbl := (h.lt b (.inl rfl)).2
  have C0 := Lib.hid (show ∀ W, Below w.heap.size w W → W.cell? ⟨b, 0, none⟩ = some (.slice aB B.length kB) from fun W hb => (hb.cell (p := ⟨b, 0, none⟩) hbl).trans (cell_of h.blk 0))
  have C1 := Lib.hid (show ∀ W, Below w.heap.size w W → W.cell? ⟨b, 1, none⟩ = some (.slice aM M.length kM) from fun W hb => (hb.cell (p := ⟨b, 1, none⟩) hbl).trans (cell_of h.blk 1))
  have HIN := Lib.hid h
  have hX := heap_alloc_new w (.cells #[.int .i64 kd, .int .i64 co, .int .i64 ad, .int .u32 va, .int .u32 ne, .bool dn] 24)
  have hbA : Below w.heap.size w ((w.alloc (.cells #[.int .i64 kd, .int .i64 co, .int .i64 ad, .int .u32 va, .int .u32 ne, .bool dn] 24)).alloc (.cells #[.int .i64 0, .int .i64 0, .int .i64 0, .int .u32 0, .int .u32 0, .bool false] 24)) := ((Below.refl _ _).alloc (Nat.le_refl _) _).alloc (by simp) _
  have hbX : Below (w.alloc (.cells #[.int .i64 kd, .int .i64 co, .int .i64 ad, .int .u32 va, .int .u32 ne, .bool dn] 24)).heap.size (w.alloc (.cells #[.int .i64 kd, .int .i64 co, .int .i64 ad, .int .u32 va, .int .u32 ne, .bool dn] 24)) ((w.alloc (.cells #[.int .i64 kd, .int .i64 co, .int .i64 ad, .int .u32 va, .int .u32 ne, .bool dn] 24)).alloc (.cells #[.int .i64 0, .int .i64 0, .int .i64 0, .int .u32 0, .int .u32 0, .bool false] 24)) := (Below.refl _ _).alloc (Nat.le_refl _) _
  have HBA := Lib.hid hbA
  have HBX := Lib.hid hbX
  have HX := Lib.hid hX
  clear hX hbA hbX h hbl
  go_enter Tryd.func20, Tryd.ntmps20
  go_wp2_with fail
  refine wp_region_lexA ⟨[], []⟩ (fun x => Below ((w.alloc (.cells #[.int .i64 kd, .int .i64 co, .int .i64 ad, .int .u32 va, .int .u32 ne, .bool dn] 24)).alloc (.cells #[.int .i64 0, .int .i64 0, .int .i64 0, .int .u32 0, .int .u32 0, .bool false] 24)).heap.size ((w.alloc (.cells #[.int .i64 kd, .int .i64 co, .int .i64 ad, .int .u32 va, .int .u32 ne, .bool dn] 24)).alloc (.cells #[.int .i64 0, .int .i64 0, .int .i64 0, .int .u32 0, .int .u32 0, .bool false] 24)) x) (by kernel_rfl) (by kernel_rfl) (Below.refl _ _).drew ?_
  intro S hto hof hne
  have htw : ∀ z : Wd S, Below w.heap.size w z.w := fun z => HBA.out.trans ((hto z).mono HBA.out.size)
  have htx : ∀ z : Wd S, Below (w.alloc (.cells #[.int .i64 kd, .int .i64 co, .int .i64 ad, .int .u32 va, .int .u32 ne, .bool dn] 24)).heap.size (w.alloc (.cells #[.int .i64 kd, .int .i64 co, .int .i64 ad, .int .u32 va, .int .u32 ne, .bool dn] 24)) z.w := fun z => HBX.out.trans ((hto z).mono HBX.out.size)
  have yC0 : ∀ z : Wd S, z.w.cell? ⟨b, 0, none⟩ = some (.slice aB B.length kB) := fun z => C0.out z.w (htw z)
  have yC1 : ∀ z : Wd S, z.w.cell? ⟨b, 1, none⟩ = some (.slice aM M.length kM) := fun z => C1.out z.w (htw z)
  have yX1 : ∀ z : Wd S, z.w.cell? ⟨w.heap.size, 1, none⟩ = some (.int .i64 co) := fun z => ((htx z).cell (p := ⟨w.heap.size, 1, none⟩) (by simp)).trans (cell_of HX.out 1)
  have yX2 : ∀ z : Wd S, z.w.cell? ⟨w.heap.size, 2, none⟩ = some (.int .i64 ad) := fun z => ((htx z).cell (p := ⟨w.heap.size, 2, none⟩) (by simp)).trans (cell_of HX.out 2)
  have Hof := Lib.hid hof
  clear hto hof htw htx
  refine lexW_light 28 (by kernel_rfl) ?_
  simp only [List.take_succ_cons, List.take_zero, List.drop_succ_cons, List.drop_zero]
  repeat (first | go_big_quiet_skip | (go_big_quiet_want; go_big_quiet_op; go_big_quiet_on))
  refine wpQuiet_nil ?_
  refine lexW_done ?_
  clear yC0 yC1 yX1 yX2
  go_wp2_with fail
  refine bodyPost_ret_by (v := .agg #[.int .i64 kd, .int .i64 co, .int .i64 ad, .int .u32 va, .int .u32 ne, .bool dn]) (by simp [results, Tryd.results20, go_sem]) rfl ?_
  exact ⟨rfl, by first | exact HBA.out.drew | exact (((Below.refl _ _).alloc (Nat.le_refl _) _).alloc (by simp) _).drew | exact (((Below.refl _ _).alloc (Nat.le_refl _) _).alloc (by simp) _).drew.drew | exact (((Below.refl _ _).alloc (Nat.le_refl _) _).alloc (by simp) _).drew.drew.drew⟩

set_option maxRecDepth 100000 in
set_option maxHeartbeats 8000000 in
theorem fit_b2 (lo b : Nat) (vB vM : Value) (vs : List Value) (B : Bufs) (M : List Int) (kd co ad : Int) (va ne : Int) (dn : Bool) (w : World) (h : MdAt tyR w lo b vB vM vs B M) (hco : 0 ≤ co) (hco2 : (B.length : Int) ≤ co) :
    Calls Tryd.prog 20 #[.pointer (some ⟨b, 0, none⟩), .agg #[.int .i64 kd, .int .i64 co, .int .i64 ad, .int .u32 va, .int .u32 ne, .bool dn]] w fun ev w' => ev = .returned (.agg #[.int .i64 kd, .int .i64 co, .int .i64 ad, .int .u32 va, .int .u32 ne, .bool dn]) ∧ Below w.heap.size w w' := by
  have g1 : decide (co < 0) = false := by simpa using hco
  have g2 : decide (co ≥ (B.length : Int)) = true := by simpa using hco2
  clear hco hco2
  obtain ⟨aB, kB, rfl⟩ := h.rowB.len
  obtain ⟨aM, kM, rfl⟩ := h.rowM.len
  have hbl := (h.lt b (.inl rfl)).2
  have C0 := Lib.hid (show ∀ W, Below w.heap.size w W → W.cell? ⟨b, 0, none⟩ = some (.slice aB B.length kB) from fun W hb => (hb.cell (p := ⟨b, 0, none⟩) hbl).trans (cell_of h.blk 0))
  have C1 := Lib.hid (show ∀ W, Below w.heap.size w W → W.cell? ⟨b, 1, none⟩ = some (.slice aM M.length kM) from fun W hb => (hb.cell (p := ⟨b, 1, none⟩) hbl).trans (cell_of h.blk 1))
  have HIN := Lib.hid h
  have hX := heap_alloc_new w (.cells #[.int .i64 kd, .int .i64 co, .int .i64 ad, .int .u32 va, .int .u32 ne, .bool dn] 24)
  have hbA : Below w.heap.size w ((w.alloc (.cells #[.int .i64 kd, .int .i64 co, .int .i64 ad, .int .u32 va, .int .u32 ne, .bool dn] 24)).alloc (.cells #[.int .i64 0, .int .i64 0, .int .i64 0, .int .u32 0, .int .u32 0, .bool false] 24)) := ((Below.refl _ _).alloc (Nat.le_refl _) _).alloc (by simp) _
  have hbX : Below (w.alloc (.cells #[.int .i64 kd, .int .i64 co, .int .i64 ad, .int .u32 va, .int .u32 ne, .bool dn] 24)).heap.size (w.alloc (.cells #[.int .i64 kd, .int .i64 co, .int .i64 ad, .int .u32 va, .int .u32 ne, .bool dn] 24)) ((w.alloc (.cells #[.int .i64 kd, .int .i64 co, .int .i64 ad, .int .u32 va, .int .u32 ne, .bool dn] 24)).alloc (.cells #[.int .i64 0, .int .i64 0, .int .i64 0, .int .u32 0, .int .u32 0, .bool false] 24)) := (Below.refl _ _).alloc (Nat.le_refl _) _
  have HBA := Lib.hid hbA
  have HBX := Lib.hid hbX
  have HX := Lib.hid hX
  clear hX hbA hbX h hbl
  go_enter Tryd.func20, Tryd.ntmps20
  go_wp2_with fail
  refine wp_region_lexA ⟨[], []⟩ (fun x => Below ((w.alloc (.cells #[.int .i64 kd, .int .i64 co, .int .i64 ad, .int .u32 va, .int .u32 ne, .bool dn] 24)).alloc (.cells #[.int .i64 0, .int .i64 0, .int .i64 0, .int .u32 0, .int .u32 0, .bool false] 24)).heap.size ((w.alloc (.cells #[.int .i64 kd, .int .i64 co, .int .i64 ad, .int .u32 va, .int .u32 ne, .bool dn] 24)).alloc (.cells #[.int .i64 0, .int .i64 0, .int .i64 0, .int .u32 0, .int .u32 0, .bool false] 24)) x) (by kernel_rfl) (by kernel_rfl) (Below.refl _ _).drew ?_
  intro S hto hof hne
  have htw : ∀ z : Wd S, Below w.heap.size w z.w := fun z => HBA.out.trans ((hto z).mono HBA.out.size)
  have htx : ∀ z : Wd S, Below (w.alloc (.cells #[.int .i64 kd, .int .i64 co, .int .i64 ad, .int .u32 va, .int .u32 ne, .bool dn] 24)).heap.size (w.alloc (.cells #[.int .i64 kd, .int .i64 co, .int .i64 ad, .int .u32 va, .int .u32 ne, .bool dn] 24)) z.w := fun z => HBX.out.trans ((hto z).mono HBX.out.size)
  have yC0 : ∀ z : Wd S, z.w.cell? ⟨b, 0, none⟩ = some (.slice aB B.length kB) := fun z => C0.out z.w (htw z)
  have yC1 : ∀ z : Wd S, z.w.cell? ⟨b, 1, none⟩ = some (.slice aM M.length kM) := fun z => C1.out z.w (htw z)
  have yX1 : ∀ z : Wd S, z.w.cell? ⟨w.heap.size, 1, none⟩ = some (.int .i64 co) := fun z => ((htx z).cell (p := ⟨w.heap.size, 1, none⟩) (by simp)).trans (cell_of HX.out 1)
  have yX2 : ∀ z : Wd S, z.w.cell? ⟨w.heap.size, 2, none⟩ = some (.int .i64 ad) := fun z => ((htx z).cell (p := ⟨w.heap.size, 2, none⟩) (by simp)).trans (cell_of HX.out 2)
  have Hof := Lib.hid hof
  clear hto hof htw htx
  refine lexW_light 28 (by kernel_rfl) ?_
  simp only [List.take_succ_cons, List.take_zero, List.drop_succ_cons, List.drop_zero]
  repeat (first | go_big_quiet_skip | (go_big_quiet_want; go_big_quiet_op; go_big_quiet_on))
  refine wpQuiet_nil ?_
  refine lexW_done ?_
  clear yC0 yC1 yX1 yX2
  go_wp2_with fail
  refine bodyPost_ret_by (v := .agg #[.int .i64 kd, .int .i64 co, .int .i64 ad, .int .u32 va, .int .u32 ne, .bool dn]) (by simp [results, Tryd.results20, go_sem]) rfl ?_
  exact ⟨rfl, by first | exact HBA.out.drew | exact (((Below.refl _ _).alloc (Nat.le_refl _) _).alloc (by simp) _).drew | exact (((Below.refl _ _).alloc (Nat.le_refl _) _).alloc (by simp) _).drew.drew | exact (((Below.refl _ _).alloc (Nat.le_refl _) _).alloc (by simp) _).drew.drew.drew⟩

set_option maxRecDepth 100000 in
set_option maxHeartbeats 8000000 in
theorem fit_b3 (lo b : Nat) (vB vM : Value) (vs : List Value) (B : Bufs) (M : List Int) (k : Nat) (kd ad : Int) (va ne : Int) (dn : Bool) (w : World) (h : MdAt tyR w lo b vB vM vs B M) (hk : k < B.length) (had : ad < 0) :
    Calls Tryd.prog 20 #[.pointer (some ⟨b, 0, none⟩), .agg #[.int .i64 kd, .int .i64 (k : Int), .int .i64 ad, .int .u32 va, .int .u32 ne, .bool dn]] w fun ev w' => ev = .returned (.agg #[.int .i64 kd, .int .i64 (k : Int), .int .i64 ad, .int .u32 va, .int .u32 ne, .bool dn]) ∧ Below w.heap.size w w' := by
  have g1 : decide ((k : Int) < 0) = false := by simp
  have g2 : decide ((k : Int) ≥ (B.length : Int)) = false := by simp; omega
  have g3 : decide (B.length ≤ k) = false := by simp; omega
  have g7 : decide (ad < 0) = true := by simpa using had
  clear had
  obtain ⟨gB, oB, kB, sd, cp, rfl, hvk, e0, z0, hrow⟩ := h.buf hk
  obtain ⟨aM, kM, rfl⟩ := h.rowM.len
  have hbl := (h.lt b (.inl rfl)).2
  have C0 := Lib.hid (show ∀ W, Below w.heap.size w W → W.cell? ⟨b, 0, none⟩ = some (.slice (some ⟨gB, oB, none⟩) B.length kB) from fun W hb => (hb.cell (p := ⟨b, 0, none⟩) hbl).trans (cell_of h.blk 0))
  have C1 := Lib.hid (show ∀ W, Below w.heap.size w W → W.cell? ⟨b, 1, none⟩ = some (.slice aM M.length kM) from fun W hb => (hb.cell (p := ⟨b, 1, none⟩) hbl).trans (cell_of h.blk 1))
  have hgB := (h.lt gB (.inr (.inl rfl))).2
  have E0 := Lib.hid (show ∀ W, Below w.heap.size w W → W.cell? ⟨gB, oB + k, none⟩ = some (.slice sd (B.getD k []).length cp) from fun W hb => (hb.cell (p := ⟨gB, oB + k, none⟩) hgB).trans e0)
  have ROW := Lib.hid (show winRow w lo 87 2 (.slice sd (B.getD k []).length cp) (B.getD k []).length (flatW (B.getD k [])) from hrow)
  have hkl : (k : Int) < B.length := by omega
  have HKK := Lib.hid hk
  clear e0 z0 hrow hvk hk hgB
  have HIN := Lib.hid h
  have hX := heap_alloc_new w (.cells #[.int .i64 kd, .int .i64 (k : Int), .int .i64 ad, .int .u32 va, .int .u32 ne, .bool dn] 24)
  have hbA : Below w.heap.size w ((w.alloc (.cells #[.int .i64 kd, .int .i64 (k : Int), .int .i64 ad, .int .u32 va, .int .u32 ne, .bool dn] 24)).alloc (.cells #[.int .i64 0, .int .i64 0, .int .i64 0, .int .u32 0, .int .u32 0, .bool false] 24)) := ((Below.refl _ _).alloc (Nat.le_refl _) _).alloc (by simp) _
  have hbX : Below (w.alloc (.cells #[.int .i64 kd, .int .i64 (k : Int), .int .i64 ad, .int .u32 va, .int .u32 ne, .bool dn] 24)).heap.size (w.alloc (.cells #[.int .i64 kd, .int .i64 (k : Int), .int .i64 ad, .int .u32 va, .int .u32 ne, .bool dn] 24)) ((w.alloc (.cells #[.int .i64 kd, .int .i64 (k : Int), .int .i64 ad, .int .u32 va, .int .u32 ne, .bool dn] 24)).alloc (.cells #[.int .i64 0, .int .i64 0, .int .i64 0, .int .u32 0, .int .u32 0, .bool false] 24)) := (Below.refl _ _).alloc (Nat.le_refl _) _
  have HBA := Lib.hid hbA
  have HBX := Lib.hid hbX
  have HX := Lib.hid hX
  clear hX hbA hbX h hbl
  go_enter Tryd.func20, Tryd.ntmps20
  go_wp2_with fail
  refine wp_region_lexA ⟨[], []⟩ (fun x => Below ((w.alloc (.cells #[.int .i64 kd, .int .i64 (k : Int), .int .i64 ad, .int .u32 va, .int .u32 ne, .bool dn] 24)).alloc (.cells #[.int .i64 0, .int .i64 0, .int .i64 0, .int .u32 0, .int .u32 0, .bool false] 24)).heap.size ((w.alloc (.cells #[.int .i64 kd, .int .i64 (k : Int), .int .i64 ad, .int .u32 va, .int .u32 ne, .bool dn] 24)).alloc (.cells #[.int .i64 0, .int .i64 0, .int .i64 0, .int .u32 0, .int .u32 0, .bool false] 24)) x) (by kernel_rfl) (by kernel_rfl) (Below.refl _ _).drew ?_
  intro S hto hof hne
  have htw : ∀ z : Wd S, Below w.heap.size w z.w := fun z => HBA.out.trans ((hto z).mono HBA.out.size)
  have htx : ∀ z : Wd S, Below (w.alloc (.cells #[.int .i64 kd, .int .i64 (k : Int), .int .i64 ad, .int .u32 va, .int .u32 ne, .bool dn] 24)).heap.size (w.alloc (.cells #[.int .i64 kd, .int .i64 (k : Int), .int .i64 ad, .int .u32 va, .int .u32 ne, .bool dn] 24)) z.w := fun z => HBX.out.trans ((hto z).mono HBX.out.size)
  have yC0 : ∀ z : Wd S, z.w.cell? ⟨b, 0, none⟩ = some (.slice (some ⟨gB, oB, none⟩) B.length kB) := fun z => C0.out z.w (htw z)
  have yC1 : ∀ z : Wd S, z.w.cell? ⟨b, 1, none⟩ = some (.slice aM M.length kM) := fun z => C1.out z.w (htw z)
  have yX1 : ∀ z : Wd S, z.w.cell? ⟨w.heap.size, 1, none⟩ = some (.int .i64 (k : Int)) := fun z => ((htx z).cell (p := ⟨w.heap.size, 1, none⟩) (by simp)).trans (cell_of HX.out 1)
  have yX2 : ∀ z : Wd S, z.w.cell? ⟨w.heap.size, 2, none⟩ = some (.int .i64 ad) := fun z => ((htx z).cell (p := ⟨w.heap.size, 2, none⟩) (by simp)).trans (cell_of HX.out 2)
  have Hof := Lib.hid hof
  clear hto hof htw htx
  refine lexW_light 28 (by kernel_rfl) ?_
  simp only [List.take_succ_cons, List.take_zero, List.drop_succ_cons, List.drop_zero]
  repeat (first | go_big_quiet_skip | (go_big_quiet_want; go_big_quiet_op; go_big_quiet_on))
  refine wpQuiet_nil ?_
  refine lexW_done ?_
  clear yC0 yC1 yX1 yX2
  go_wp2_with fail
  refine bodyPost_ret_by (v := .agg #[.int .i64 kd, .int .i64 (k : Int), .int .i64 ad, .int .u32 va, .int .u32 ne, .bool dn]) (by simp [results, Tryd.results20, go_sem]) rfl ?_
  exact ⟨rfl, by first | exact HBA.out.drew | exact (((Below.refl _ _).alloc (Nat.le_refl _) _).alloc (by simp) _).drew | exact (((Below.refl _ _).alloc (Nat.le_refl _) _).alloc (by simp) _).drew.drew | exact (((Below.refl _ _).alloc (Nat.le_refl _) _).alloc (by simp) _).drew.drew.drew⟩

set_option maxRecDepth 100000 in
set_option maxHeartbeats 8000000 in
theorem fit_b4 (lo b : Nat) (vB vM : Value) (vs : List Value) (B : Bufs) (M : List Int) (k : Nat) (kd ad : Int) (va ne : Int) (dn : Bool) (w : World) (h : MdAt tyR w lo b vB vM vs B M) (hk : k < B.length) (had : 0 ≤ ad) (had2 : (M.length : Int) ≤ ad) :
    Calls Tryd.prog 20 #[.pointer (some ⟨b, 0, none⟩), .agg #[.int .i64 kd, .int .i64 (k : Int), .int .i64 ad, .int .u32 va, .int .u32 ne, .bool dn]] w fun ev w' => ev = .returned (.agg #[.int .i64 kd, .int .i64 (k : Int), .int .i64 ad, .int .u32 va, .int .u32 ne, .bool dn]) ∧ Below w.heap.size w w' := by
  have g1 : decide ((k : Int) < 0) = false := by simp
  have g2 : decide ((k : Int) ≥ (B.length : Int)) = false := by simp; omega
  have g3 : decide (B.length ≤ k) = false := by simp; omega
  have g7 : decide (ad < 0) = false := by simpa using had
  have g8 : decide (ad ≥ (M.length : Int)) = true := by simpa using had2
  clear had had2
  obtain ⟨gB, oB, kB, sd, cp, rfl, hvk, e0, z0, hrow⟩ := h.buf hk
  obtain ⟨aM, kM, rfl⟩ := h.rowM.len
  have hbl := (h.lt b (.inl rfl)).2
  have C0 := Lib.hid (show ∀ W, Below w.heap.size w W → W.cell? ⟨b, 0, none⟩ = some (.slice (some ⟨gB, oB, none⟩) B.length kB) from fun W hb => (hb.cell (p := ⟨b, 0, none⟩) hbl).trans (cell_of h.blk 0))
  have C1 := Lib.hid (show ∀ W, Below w.heap.size w W → W.cell? ⟨b, 1, none⟩ = some (.slice aM M.length kM) from fun W hb => (hb.cell (p := ⟨b, 1, none⟩) hbl).trans (cell_of h.blk 1))
  have hgB := (h.lt gB (.inr (.inl rfl))).2
  have E0 := Lib.hid (show ∀ W, Below w.heap.size w W → W.cell? ⟨gB, oB + k, none⟩ = some (.slice sd (B.getD k []).length cp) from fun W hb => (hb.cell (p := ⟨gB, oB + k, none⟩) hgB).trans e0)
  have ROW := Lib.hid (show winRow w lo 87 2 (.slice sd (B.getD k []).length cp) (B.getD k []).length (flatW (B.getD k [])) from hrow)
  have hkl : (k : Int) < B.length := by omega
  have HKK := Lib.hid hk
  clear e0 z0 hrow hvk hk hgB
  have HIN := Lib.hid h
  have hX := heap_alloc_new w (.cells #[.int .i64 kd, .int .i64 (k : Int), .int .i64 ad, .int .u32 va, .int .u32 ne, .bool dn] 24)
  have hbA : Below w.heap.size w ((w.alloc (.cells #[.int .i64 kd, .int .i64 (k : Int), .int .i64 ad, .int .u32 va, .int .u32 ne, .bool dn] 24)).alloc (.cells #[.int .i64 0, .int .i64 0, .int .i64 0, .int .u32 0, .int .u32 0, .bool false] 24)) := ((Below.refl _ _).alloc (Nat.le_refl _) _).alloc (by simp) _
  have hbX : Below (w.alloc (.cells #[.int .i64 kd, .int .i64 (k : Int), .int .i64 ad, .int .u32 va, .int .u32 ne, .bool dn] 24)).heap.size (w.alloc (.cells #[.int .i64 kd, .int .i64 (k : Int), .int .i64 ad, .int .u32 va, .int .u32 ne, .bool dn] 24)) ((w.alloc (.cells #[.int .i64 kd, .int .i64 (k : Int), .int .i64 ad, .int .u32 va, .int .u32 ne, .bool dn] 24)).alloc (.cells #[.int .i64 0, .int .i64 0, .int .i64 0, .int .u32 0, .int .u32 0, .bool false] 24)) := (Below.refl _ _).alloc (Nat.le_refl _) _
  have HBA := Lib.hid hbA
  have HBX := Lib.hid hbX
  have HX := Lib.hid hX
  clear hX hbA hbX h hbl
  go_enter Tryd.func20, Tryd.ntmps20
  go_wp2_with fail
  refine wp_region_lexA ⟨[], []⟩ (fun x => Below ((w.alloc (.cells #[.int .i64 kd, .int .i64 (k : Int), .int .i64 ad, .int .u32 va, .int .u32 ne, .bool dn] 24)).alloc (.cells #[.int .i64 0, .int .i64 0, .int .i64 0, .int .u32 0, .int .u32 0, .bool false] 24)).heap.size ((w.alloc (.cells #[.int .i64 kd, .int .i64 (k : Int), .int .i64 ad, .int .u32 va, .int .u32 ne, .bool dn] 24)).alloc (.cells #[.int .i64 0, .int .i64 0, .int .i64 0, .int .u32 0, .int .u32 0, .bool false] 24)) x) (by kernel_rfl) (by kernel_rfl) (Below.refl _ _).drew ?_
  intro S hto hof hne
  have htw : ∀ z : Wd S, Below w.heap.size w z.w := fun z => HBA.out.trans ((hto z).mono HBA.out.size)
  have htx : ∀ z : Wd S, Below (w.alloc (.cells #[.int .i64 kd, .int .i64 (k : Int), .int .i64 ad, .int .u32 va, .int .u32 ne, .bool dn] 24)).heap.size (w.alloc (.cells #[.int .i64 kd, .int .i64 (k : Int), .int .i64 ad, .int .u32 va, .int .u32 ne, .bool dn] 24)) z.w := fun z => HBX.out.trans ((hto z).mono HBX.out.size)
  have yC0 : ∀ z : Wd S, z.w.cell? ⟨b, 0, none⟩ = some (.slice (some ⟨gB, oB, none⟩) B.length kB) := fun z => C0.out z.w (htw z)
  have yC1 : ∀ z : Wd S, z.w.cell? ⟨b, 1, none⟩ = some (.slice aM M.length kM) := fun z => C1.out z.w (htw z)
  have yX1 : ∀ z : Wd S, z.w.cell? ⟨w.heap.size, 1, none⟩ = some (.int .i64 (k : Int)) := fun z => ((htx z).cell (p := ⟨w.heap.size, 1, none⟩) (by simp)).trans (cell_of HX.out 1)
  have yX2 : ∀ z : Wd S, z.w.cell? ⟨w.heap.size, 2, none⟩ = some (.int .i64 ad) := fun z => ((htx z).cell (p := ⟨w.heap.size, 2, none⟩) (by simp)).trans (cell_of HX.out 2)
  have Hof := Lib.hid hof
  clear hto hof htw htx
  refine lexW_light 28 (by kernel_rfl) ?_
  simp only [List.take_succ_cons, List.take_zero, List.drop_succ_cons, List.drop_zero]
  repeat (first | go_big_quiet_skip | (go_big_quiet_want; go_big_quiet_op; go_big_quiet_on))
  refine wpQuiet_nil ?_
  refine lexW_done ?_
  clear yC0 yC1 yX1 yX2
  go_wp2_with fail
  refine bodyPost_ret_by (v := .agg #[.int .i64 kd, .int .i64 (k : Int), .int .i64 ad, .int .u32 va, .int .u32 ne, .bool dn]) (by simp [results, Tryd.results20, go_sem]) rfl ?_
  exact ⟨rfl, by first | exact HBA.out.drew | exact (((Below.refl _ _).alloc (Nat.le_refl _) _).alloc (by simp) _).drew | exact (((Below.refl _ _).alloc (Nat.le_refl _) _).alloc (by simp) _).drew.drew | exact (((Below.refl _ _).alloc (Nat.le_refl _) _).alloc (by simp) _).drew.drew.drew⟩

set_option maxRecDepth 100000 in
set_option maxHeartbeats 8000000 in
theorem fit_oth (lo b : Nat) (vB vM : Value) (vs : List Value) (B : Bufs) (M : List Int) (k j : Nat) (kd : Int) (va ne : Int) (dn : Bool) (w : World) (h : MdAt tyR w lo b vB vM vs B M) (hk : k < B.length) (hj : j < M.length) (h1 : kd ≠ 1) (h3 : kd ≠ 3) (h4 : kd ≠ 4) :
    Calls Tryd.prog 20 #[.pointer (some ⟨b, 0, none⟩), .agg #[.int .i64 kd, .int .i64 (k : Int), .int .i64 (j : Int), .int .u32 va, .int .u32 ne, .bool dn]] w fun ev w' => ev = .returned (.agg #[.int .i64 kd, .int .i64 (k : Int), .int .i64 (j : Int), .int .u32 va, .int .u32 ne, .bool dn]) ∧ Below w.heap.size w w' := by
  have g1 : decide ((k : Int) < 0) = false := by simp
  have g2 : decide ((k : Int) ≥ (B.length : Int)) = false := by simp; omega
  have g3 : decide (B.length ≤ k) = false := by simp; omega
  have g7 : decide ((j : Int) < 0) = false := by simp
  have g8 : decide ((j : Int) ≥ (M.length : Int)) = false := by simp; omega
  have g9 : decide (M.length ≤ j) = false := by simp; omega
  have k1 : (kd == 1) = false := by simpa using h1
  have k3 : (kd == 3) = false := by simpa using h3
  have k4 : (kd == 4) = false := by simpa using h4
  clear h1 h3 h4
  obtain ⟨gB, oB, kB, sd, cp, rfl, hvk, e0, z0, hrow⟩ := h.buf hk
  obtain ⟨gM, oM, kM, rfl, e3, z3⟩ := h.mem hj
  have hbl := (h.lt b (.inl rfl)).2
  have C0 := Lib.hid (show ∀ W, Below w.heap.size w W → W.cell? ⟨b, 0, none⟩ = some (.slice (some ⟨gB, oB, none⟩) B.length kB) from fun W hb => (hb.cell (p := ⟨b, 0, none⟩) hbl).trans (cell_of h.blk 0))
  have C1 := Lib.hid (show ∀ W, Below w.heap.size w W → W.cell? ⟨b, 1, none⟩ = some (.slice (some ⟨gM, oM, none⟩) M.length kM) from fun W hb => (hb.cell (p := ⟨b, 1, none⟩) hbl).trans (cell_of h.blk 1))
  have hgB := (h.lt gB (.inr (.inl rfl))).2
  have E0 := Lib.hid (show ∀ W, Below w.heap.size w W → W.cell? ⟨gB, oB + k, none⟩ = some (.slice sd (B.getD k []).length cp) from fun W hb => (hb.cell (p := ⟨gB, oB + k, none⟩) hgB).trans e0)
  have ROW := Lib.hid (show winRow w lo 87 2 (.slice sd (B.getD k []).length cp) (B.getD k []).length (flatW (B.getD k [])) from hrow)
  have hkl : (k : Int) < B.length := by omega
  have HKK := Lib.hid hk
  clear e0 z0 hrow hvk hk hgB
  have hgM := (h.lt gM (.inr (.inr (.inl rfl)))).2
  have E3 := Lib.hid (show ∀ W, Below w.heap.size w W → W.cell? ⟨gM, oM + j, none⟩ = some (.int .u32 (M.getD j 0)) from fun W hb => (hb.cell (p := ⟨gM, oM + j, none⟩) hgM).trans e3)
  have hjl : (j : Int) < M.length := by omega
  have HJJ := Lib.hid hj
  clear e3 z3 hj hgM
  have HIN := Lib.hid h
  have hX := heap_alloc_new w (.cells #[.int .i64 kd, .int .i64 (k : Int), .int .i64 (j : Int), .int .u32 va, .int .u32 ne, .bool dn] 24)
  have hbA : Below w.heap.size w ((w.alloc (.cells #[.int .i64 kd, .int .i64 (k : Int), .int .i64 (j : Int), .int .u32 va, .int .u32 ne, .bool dn] 24)).alloc (.cells #[.int .i64 0, .int .i64 0, .int .i64 0, .int .u32 0, .int .u32 0, .bool false] 24)) := ((Below.refl _ _).alloc (Nat.le_refl _) _).alloc (by simp) _
  have hbX : Below (w.alloc (.cells #[.int .i64 kd, .int .i64 (k : Int), .int .i64 (j : Int), .int .u32 va, .int .u32 ne, .bool dn] 24)).heap.size (w.alloc (.cells #[.int .i64 kd, .int .i64 (k : Int), .int .i64 (j : Int), .int .u32 va, .int .u32 ne, .bool dn] 24)) ((w.alloc (.cells #[.int .i64 kd, .int .i64 (k : Int), .int .i64 (j : Int), .int .u32 va, .int .u32 ne, .bool dn] 24)).alloc (.cells #[.int .i64 0, .int .i64 0, .int .i64 0, .int .u32 0, .int .u32 0, .bool false] 24)) := (Below.refl _ _).alloc (Nat.le_refl _) _
  have HBA := Lib.hid hbA
  have HBX := Lib.hid hbX
  have HX := Lib.hid hX
  clear hX hbA hbX h hbl
  go_enter Tryd.func20, Tryd.ntmps20
  go_wp2_with fail
  refine wp_region_lexA ⟨[], []⟩ (fun x => Below ((w.alloc (.cells #[.int .i64 kd, .int .i64 (k : Int), .int .i64 (j : Int), .int .u32 va, .int .u32 ne, .bool dn] 24)).alloc (.cells #[.int .i64 0, .int .i64 0, .int .i64 0, .int .u32 0, .int .u32 0, .bool false] 24)).heap.size ((w.alloc (.cells #[.int .i64 kd, .int .i64 (k : Int), .int .i64 (j : Int), .int .u32 va, .int .u32 ne, .bool dn] 24)).alloc (.cells #[.int .i64 0, .int .i64 0, .int .i64 0, .int .u32 0, .int .u32 0, .bool false] 24)) x) (by kernel_rfl) (by kernel_rfl) (Below.refl _ _).drew ?_
  intro S hto hof hne
  have htw : ∀ z : Wd S, Below w.heap.size w z.w := fun z => HBA.out.trans ((hto z).mono HBA.out.size)
  have htx : ∀ z : Wd S, Below (w.alloc (.cells #[.int .i64 kd, .int .i64 (k : Int), .int .i64 (j : Int), .int .u32 va, .int .u32 ne, .bool dn] 24)).heap.size (w.alloc (.cells #[.int .i64 kd, .int .i64 (k : Int), .int .i64 (j : Int), .int .u32 va, .int .u32 ne, .bool dn] 24)) z.w := fun z => HBX.out.trans ((hto z).mono HBX.out.size)
  have yC0 : ∀ z : Wd S, z.w.cell? ⟨b, 0, none⟩ = some (.slice (some ⟨gB, oB, none⟩) B.length kB) := fun z => C0.out z.w (htw z)
  have yC1 : ∀ z : Wd S, z.w.cell? ⟨b, 1, none⟩ = some (.slice (some ⟨gM, oM, none⟩) M.length kM) := fun z => C1.out z.w (htw z)
  have yX1 : ∀ z : Wd S, z.w.cell? ⟨w.heap.size, 1, none⟩ = some (.int .i64 (k : Int)) := fun z => ((htx z).cell (p := ⟨w.heap.size, 1, none⟩) (by simp)).trans (cell_of HX.out 1)
  have yX2 : ∀ z : Wd S, z.w.cell? ⟨w.heap.size, 2, none⟩ = some (.int .i64 (j : Int)) := fun z => ((htx z).cell (p := ⟨w.heap.size, 2, none⟩) (by simp)).trans (cell_of HX.out 2)
  have Hof := Lib.hid hof
  clear hto hof htw htx
  refine lexW_light 28 (by kernel_rfl) ?_
  simp only [List.take_succ_cons, List.take_zero, List.drop_succ_cons, List.drop_zero]
  repeat (first | go_big_quiet_skip | (go_big_quiet_want; go_big_quiet_op; go_big_quiet_on))
  refine wpQuiet_nil ?_
  refine lexW_done ?_
  clear yC0 yC1 yX1 yX2
  go_wp2_with fail
  refine bodyPost_ret_by (v := .agg #[.int .i64 kd, .int .i64 (k : Int), .int .i64 (j : Int), .int .u32 va, .int .u32 ne, .bool dn]) (by simp [results, Tryd.results20, go_sem]) rfl ?_
  exact ⟨rfl, by first | exact HBA.out.drew | exact (((Below.refl _ _).alloc (Nat.le_refl _) _).alloc (by simp) _).drew | exact (((Below.refl _ _).alloc (Nat.le_refl _) _).alloc (by simp) _).drew.drew | exact (((Below.refl _ _).alloc (Nat.le_refl _) _).alloc (by simp) _).drew.drew.drew⟩

set_option maxRecDepth 100000 in
set_option maxHeartbeats 8000000 in
theorem fit_load (lo b : Nat) (vB vM : Value) (vs : List Value) (B : Bufs) (M : List Int) (k j : Nat) (va ne : Int) (dn : Bool) (w : World) (h : MdAt tyR w lo b vB vM vs B M) (hk : k < B.length) (hj : j < M.length) :
    Calls Tryd.prog 20 #[.pointer (some ⟨b, 0, none⟩), .agg #[.int .i64 1, .int .i64 (k : Int), .int .i64 (j : Int), .int .u32 va, .int .u32 ne, .bool dn]] w fun ev w' => ev = .returned (.agg #[.int .i64 1, .int .i64 (k : Int), .int .i64 (j : Int), .int .u32 (rdS B M k j), .int .u32 ne, .bool dn]) ∧ Below w.heap.size w w' := by
  have g1 : decide ((k : Int) < 0) = false := by simp
  have g2 : decide ((k : Int) ≥ (B.length : Int)) = false := by simp; omega
  have g3 : decide (B.length ≤ k) = false := by simp; omega
  have g7 : decide ((j : Int) < 0) = false := by simp
  have g8 : decide ((j : Int) ≥ (M.length : Int)) = false := by simp; omega
  have g9 : decide (M.length ≤ j) = false := by simp; omega
  obtain ⟨gB, oB, kB, sd, cp, rfl, hvk, e0, z0, hrow⟩ := h.buf hk
  obtain ⟨gM, oM, kM, rfl, e3, z3⟩ := h.mem hj
  have hbl := (h.lt b (.inl rfl)).2
  have C0 := Lib.hid (show ∀ W, Below w.heap.size w W → W.cell? ⟨b, 0, none⟩ = some (.slice (some ⟨gB, oB, none⟩) B.length kB) from fun W hb => (hb.cell (p := ⟨b, 0, none⟩) hbl).trans (cell_of h.blk 0))
  have C1 := Lib.hid (show ∀ W, Below w.heap.size w W → W.cell? ⟨b, 1, none⟩ = some (.slice (some ⟨gM, oM, none⟩) M.length kM) from fun W hb => (hb.cell (p := ⟨b, 1, none⟩) hbl).trans (cell_of h.blk 1))
  have hgB := (h.lt gB (.inr (.inl rfl))).2
  have E0 := Lib.hid (show ∀ W, Below w.heap.size w W → W.cell? ⟨gB, oB + k, none⟩ = some (.slice sd (B.getD k []).length cp) from fun W hb => (hb.cell (p := ⟨gB, oB + k, none⟩) hgB).trans e0)
  have ROW := Lib.hid (show winRow w lo 87 2 (.slice sd (B.getD k []).length cp) (B.getD k []).length (flatW (B.getD k [])) from hrow)
  have hkl : (k : Int) < B.length := by omega
  have HKK := Lib.hid hk
  clear e0 z0 hrow hvk hk hgB
  have hgM := (h.lt gM (.inr (.inr (.inl rfl)))).2
  have E3 := Lib.hid (show ∀ W, Below w.heap.size w W → W.cell? ⟨gM, oM + j, none⟩ = some (.int .u32 (M.getD j 0)) from fun W hb => (hb.cell (p := ⟨gM, oM + j, none⟩) hgM).trans e3)
  have hjl : (j : Int) < M.length := by omega
  have HJJ := Lib.hid hj
  clear e3 z3 hj hgM
  have HIN := Lib.hid h
  have hX := heap_alloc_new w (.cells #[.int .i64 1, .int .i64 (k : Int), .int .i64 (j : Int), .int .u32 va, .int .u32 ne, .bool dn] 24)
  have hbA : Below w.heap.size w ((w.alloc (.cells #[.int .i64 1, .int .i64 (k : Int), .int .i64 (j : Int), .int .u32 va, .int .u32 ne, .bool dn] 24)).alloc (.cells #[.int .i64 0, .int .i64 0, .int .i64 0, .int .u32 0, .int .u32 0, .bool false] 24)) := ((Below.refl _ _).alloc (Nat.le_refl _) _).alloc (by simp) _
  have hbX : Below (w.alloc (.cells #[.int .i64 1, .int .i64 (k : Int), .int .i64 (j : Int), .int .u32 va, .int .u32 ne, .bool dn] 24)).heap.size (w.alloc (.cells #[.int .i64 1, .int .i64 (k : Int), .int .i64 (j : Int), .int .u32 va, .int .u32 ne, .bool dn] 24)) ((w.alloc (.cells #[.int .i64 1, .int .i64 (k : Int), .int .i64 (j : Int), .int .u32 va, .int .u32 ne, .bool dn] 24)).alloc (.cells #[.int .i64 0, .int .i64 0, .int .i64 0, .int .u32 0, .int .u32 0, .bool false] 24)) := (Below.refl _ _).alloc (Nat.le_refl _) _
  have HBA := Lib.hid hbA
  have HBX := Lib.hid hbX
  have HX := Lib.hid hX
  clear hX hbA hbX h hbl
  go_enter Tryd.func20, Tryd.ntmps20
  go_wp2_with fail
  refine wp_region_lexA ⟨[], []⟩ (fun x => Below ((w.alloc (.cells #[.int .i64 1, .int .i64 (k : Int), .int .i64 (j : Int), .int .u32 va, .int .u32 ne, .bool dn] 24)).alloc (.cells #[.int .i64 0, .int .i64 0, .int .i64 0, .int .u32 0, .int .u32 0, .bool false] 24)).heap.size ((w.alloc (.cells #[.int .i64 1, .int .i64 (k : Int), .int .i64 (j : Int), .int .u32 va, .int .u32 ne, .bool dn] 24)).alloc (.cells #[.int .i64 0, .int .i64 0, .int .i64 0, .int .u32 0, .int .u32 0, .bool false] 24)) x) (by kernel_rfl) (by kernel_rfl) (Below.refl _ _).drew ?_
  intro S hto hof hne
  have htw : ∀ z : Wd S, Below w.heap.size w z.w := fun z => HBA.out.trans ((hto z).mono HBA.out.size)
  have htx : ∀ z : Wd S, Below (w.alloc (.cells #[.int .i64 1, .int .i64 (k : Int), .int .i64 (j : Int), .int .u32 va, .int .u32 ne, .bool dn] 24)).heap.size (w.alloc (.cells #[.int .i64 1, .int .i64 (k : Int), .int .i64 (j : Int), .int .u32 va, .int .u32 ne, .bool dn] 24)) z.w := fun z => HBX.out.trans ((hto z).mono HBX.out.size)
  have yC0 : ∀ z : Wd S, z.w.cell? ⟨b, 0, none⟩ = some (.slice (some ⟨gB, oB, none⟩) B.length kB) := fun z => C0.out z.w (htw z)
  have yC1 : ∀ z : Wd S, z.w.cell? ⟨b, 1, none⟩ = some (.slice (some ⟨gM, oM, none⟩) M.length kM) := fun z => C1.out z.w (htw z)
  have yX1 : ∀ z : Wd S, z.w.cell? ⟨w.heap.size, 1, none⟩ = some (.int .i64 (k : Int)) := fun z => ((htx z).cell (p := ⟨w.heap.size, 1, none⟩) (by simp)).trans (cell_of HX.out 1)
  have yX2 : ∀ z : Wd S, z.w.cell? ⟨w.heap.size, 2, none⟩ = some (.int .i64 (j : Int)) := fun z => ((htx z).cell (p := ⟨w.heap.size, 2, none⟩) (by simp)).trans (cell_of HX.out 2)
  have Hof := Lib.hid hof
  clear hto hof htw htx
  refine lexW_light 28 (by kernel_rfl) ?_
  simp only [List.take_succ_cons, List.take_zero, List.drop_succ_cons, List.drop_zero]
  repeat (first | go_big_quiet_skip | (go_big_quiet_want; go_big_quiet_op; go_big_quiet_on))
  refine wpQuiet_nil ?_
  refine lexW_done ?_
  clear yC0 yC1 yX1 yX2
  go_wp2_with fail
  refine (rread_ok lo b _ _ vs B M k j _ (HIN.out.below (((Below.refl _ _).alloc (Nat.le_refl _) _).alloc (by simp) _).drew) HKK.out HJJ.out).mono ?_
  rintro ev w' ⟨rfl, hww⟩
  obtain rfl := hww
  go_wp2_with fail
  refine bodyPost_ret_by (v := .agg #[.int .i64 1, .int .i64 (k : Int), .int .i64 (j : Int), .int .u32 (rdS B M k j), .int .u32 ne, .bool dn]) (by simp [results, Tryd.results20, go_sem]) rfl ?_
  exact ⟨rfl, by first | exact HBA.out.drew | exact (((Below.refl _ _).alloc (Nat.le_refl _) _).alloc (by simp) _).drew | exact (((Below.refl _ _).alloc (Nat.le_refl _) _).alloc (by simp) _).drew.drew | exact (((Below.refl _ _).alloc (Nat.le_refl _) _).alloc (by simp) _).drew.drew.drew⟩

set_option maxRecDepth 100000 in
set_option maxHeartbeats 8000000 in
theorem fit_commit0 (lo b : Nat) (vB vM : Value) (vs : List Value) (B : Bufs) (M : List Int) (k j : Nat) (va ne : Int) (dn : Bool) (w : World) (h : MdAt tyR w lo b vB vM vs B M) (hk : k < B.length) (hj : j < M.length) (hL : B.getD k [] = ([] : List (Int × Int))) :
    Calls Tryd.prog 20 #[.pointer (some ⟨b, 0, none⟩), .agg #[.int .i64 3, .int .i64 (k : Int), .int .i64 (j : Int), .int .u32 va, .int .u32 ne, .bool dn]] w fun ev w' => ev = .returned (.agg #[.int .i64 3, .int .i64 (k : Int), .int .i64 (j : Int), .int .u32 va, .int .u32 ne, .bool dn]) ∧ Below w.heap.size w w' := by
  have g1 : decide ((k : Int) < 0) = false := by simp
  have g2 : decide ((k : Int) ≥ (B.length : Int)) = false := by simp; omega
  have g3 : decide (B.length ≤ k) = false := by simp; omega
  have g7 : decide ((j : Int) < 0) = false := by simp
  have g8 : decide ((j : Int) ≥ (M.length : Int)) = false := by simp; omega
  have g9 : decide (M.length ≤ j) = false := by simp; omega
  obtain ⟨gB, oB, kB, sd, cp, rfl, hvk, e0, z0, hrow⟩ := h.buf hk
  rw [hL] at hvk e0 hrow
  obtain ⟨gM, oM, kM, rfl, e3, z3⟩ := h.mem hj
  have hbl := (h.lt b (.inl rfl)).2
  have C0 := Lib.hid (show ∀ W, Below w.heap.size w W → W.cell? ⟨b, 0, none⟩ = some (.slice (some ⟨gB, oB, none⟩) B.length kB) from fun W hb => (hb.cell (p := ⟨b, 0, none⟩) hbl).trans (cell_of h.blk 0))
  have C1 := Lib.hid (show ∀ W, Below w.heap.size w W → W.cell? ⟨b, 1, none⟩ = some (.slice (some ⟨gM, oM, none⟩) M.length kM) from fun W hb => (hb.cell (p := ⟨b, 1, none⟩) hbl).trans (cell_of h.blk 1))
  have hgB := (h.lt gB (.inr (.inl rfl))).2
  have E0 := Lib.hid (show ∀ W, Below w.heap.size w W → W.cell? ⟨gB, oB + k, none⟩ = some (.slice sd (([] : List (Int × Int))).length cp) from fun W hb => (hb.cell (p := ⟨gB, oB + k, none⟩) hgB).trans e0)
  have ROW := Lib.hid (show winRow w lo 87 2 (.slice sd (([] : List (Int × Int))).length cp) (([] : List (Int × Int))).length (flatW (([] : List (Int × Int)))) from hrow)
  have hkl : (k : Int) < B.length := by omega
  have HKK := Lib.hid hk
  clear e0 z0 hrow hvk hk hgB
  have hgM := (h.lt gM (.inr (.inr (.inl rfl)))).2
  have E3 := Lib.hid (show ∀ W, Below w.heap.size w W → W.cell? ⟨gM, oM + j, none⟩ = some (.int .u32 (M.getD j 0)) from fun W hb => (hb.cell (p := ⟨gM, oM + j, none⟩) hgM).trans e3)
  have hjl : (j : Int) < M.length := by omega
  have HJJ := Lib.hid hj
  clear e3 z3 hj hgM
  have HIN := Lib.hid h
  have hX := heap_alloc_new w (.cells #[.int .i64 3, .int .i64 (k : Int), .int .i64 (j : Int), .int .u32 va, .int .u32 ne, .bool dn] 24)
  have hbA : Below w.heap.size w ((w.alloc (.cells #[.int .i64 3, .int .i64 (k : Int), .int .i64 (j : Int), .int .u32 va, .int .u32 ne, .bool dn] 24)).alloc (.cells #[.int .i64 0, .int .i64 0, .int .i64 0, .int .u32 0, .int .u32 0, .bool false] 24)) := ((Below.refl _ _).alloc (Nat.le_refl _) _).alloc (by simp) _
  have hbX : Below (w.alloc (.cells #[.int .i64 3, .int .i64 (k : Int), .int .i64 (j : Int), .int .u32 va, .int .u32 ne, .bool dn] 24)).heap.size (w.alloc (.cells #[.int .i64 3, .int .i64 (k : Int), .int .i64 (j : Int), .int .u32 va, .int .u32 ne, .bool dn] 24)) ((w.alloc (.cells #[.int .i64 3, .int .i64 (k : Int), .int .i64 (j : Int), .int .u32 va, .int .u32 ne, .bool dn] 24)).alloc (.cells #[.int .i64 0, .int .i64 0, .int .i64 0, .int .u32 0, .int .u32 0, .bool false] 24)) := (Below.refl _ _).alloc (Nat.le_refl _) _
  have HBA := Lib.hid hbA
  have HBX := Lib.hid hbX
  have HX := Lib.hid hX
  clear hX hbA hbX h hbl
  go_enter Tryd.func20, Tryd.ntmps20
  go_wp2_with fail
  refine wp_region_lexA ⟨[], []⟩ (fun x => Below ((w.alloc (.cells #[.int .i64 3, .int .i64 (k : Int), .int .i64 (j : Int), .int .u32 va, .int .u32 ne, .bool dn] 24)).alloc (.cells #[.int .i64 0, .int .i64 0, .int .i64 0, .int .u32 0, .int .u32 0, .bool false] 24)).heap.size ((w.alloc (.cells #[.int .i64 3, .int .i64 (k : Int), .int .i64 (j : Int), .int .u32 va, .int .u32 ne, .bool dn] 24)).alloc (.cells #[.int .i64 0, .int .i64 0, .int .i64 0, .int .u32 0, .int .u32 0, .bool false] 24)) x) (by kernel_rfl) (by kernel_rfl) (Below.refl _ _).drew ?_
  intro S hto hof hne
  have htw : ∀ z : Wd S, Below w.heap.size w z.w := fun z => HBA.out.trans ((hto z).mono HBA.out.size)
  have htx : ∀ z : Wd S, Below (w.alloc (.cells #[.int .i64 3, .int .i64 (k : Int), .int .i64 (j : Int), .int .u32 va, .int .u32 ne, .bool dn] 24)).heap.size (w.alloc (.cells #[.int .i64 3, .int .i64 (k : Int), .int .i64 (j : Int), .int .u32 va, .int .u32 ne, .bool dn] 24)) z.w := fun z => HBX.out.trans ((hto z).mono HBX.out.size)
  have yC0 : ∀ z : Wd S, z.w.cell? ⟨b, 0, none⟩ = some (.slice (some ⟨gB, oB, none⟩) B.length kB) := fun z => C0.out z.w (htw z)
  have yC1 : ∀ z : Wd S, z.w.cell? ⟨b, 1, none⟩ = some (.slice (some ⟨gM, oM, none⟩) M.length kM) := fun z => C1.out z.w (htw z)
  have yX1 : ∀ z : Wd S, z.w.cell? ⟨w.heap.size, 1, none⟩ = some (.int .i64 (k : Int)) := fun z => ((htx z).cell (p := ⟨w.heap.size, 1, none⟩) (by simp)).trans (cell_of HX.out 1)
  have yX2 : ∀ z : Wd S, z.w.cell? ⟨w.heap.size, 2, none⟩ = some (.int .i64 (j : Int)) := fun z => ((htx z).cell (p := ⟨w.heap.size, 2, none⟩) (by simp)).trans (cell_of HX.out 2)
  have Hof := Lib.hid hof
  clear hto hof htw htx
  refine lexW_light 28 (by kernel_rfl) ?_
  simp only [List.take_succ_cons, List.take_zero, List.drop_succ_cons, List.drop_zero]
  repeat (first | go_big_quiet_skip | (go_big_quiet_want; go_big_quiet_op; go_big_quiet_on))
  refine wpQuiet_nil ?_
  refine lexW_done ?_
  clear yC0 yC1 yX1 yX2
  go_wp2_with fail
  refine wp_region_lexA ⟨[], []⟩ (fun x => Below w.heap.size w x ∧ x.cell? ⟨w.heap.size, 1, none⟩ = some (.int .i64 (k : Int))) (by kernel_rfl) (by kernel_rfl) ⟨(((Below.refl _ _).alloc (Nat.le_refl _) _).alloc (by simp) _).drew.drew, ((((Below.refl _ _).alloc (Nat.le_refl _) _).drew.drew : Below (w.alloc (.cells #[.int .i64 3, .int .i64 (k : Int), .int .i64 (j : Int), .int .u32 va, .int .u32 ne, .bool dn] 24)).heap.size (w.alloc (.cells #[.int .i64 3, .int .i64 (k : Int), .int .i64 (j : Int), .int .u32 va, .int .u32 ne, .bool dn] 24)) _).cell (p := ⟨w.heap.size, 1, none⟩) (by simp)).trans (cell_of (heap_alloc_new w (.cells #[.int .i64 3, .int .i64 (k : Int), .int .i64 (j : Int), .int .u32 va, .int .u32 ne, .bool dn] 24)) 1)⟩ ?_
  intro S hto hof hne
  have yC0 : ∀ z : Wd S, z.w.cell? ⟨b, 0, none⟩ = some (.slice (some ⟨gB, oB, none⟩) B.length kB) := fun z => C0.out z.w (hto z).1
  have yX1 : ∀ z : Wd S, z.w.cell? ⟨w.heap.size, 1, none⟩ = some (.int .i64 (k : Int)) := fun z => (hto z).2
  have yE0 : ∀ z : Wd S, z.w.cell? ⟨gB, oB + k, none⟩ = some (.slice sd (([] : List (Int × Int))).length cp) := fun z => E0.out z.w (hto z).1
  have Hof := Lib.hid hof
  clear hto hof
  refine lexW_light 9 (by kernel_rfl) ?_
  simp only [List.take_succ_cons, List.take_zero, List.drop_succ_cons, List.drop_zero]
  repeat (first | go_big_quiet_skip | (go_big_quiet_want; go_big_quiet_op; go_big_quiet_on))
  refine wpQuiet_nil ?_
  refine lexW_done ?_
  clear yC0 yX1 yE0 Hof hne S
  simp only [List.length_nil] at *
  go_wp2_with fail
  refine bodyPost_ret_by (v := .agg #[.int .i64 3, .int .i64 (k : Int), .int .i64 (j : Int), .int .u32 va, .int .u32 ne, .bool dn]) (by simp [results, Tryd.results20, go_sem]) rfl ?_
  exact ⟨rfl, by first | exact HBA.out.drew | exact (((Below.refl _ _).alloc (Nat.le_refl _) _).alloc (by simp) _).drew | exact (((Below.refl _ _).alloc (Nat.le_refl _) _).alloc (by simp) _).drew.drew | exact (((Below.refl _ _).alloc (Nat.le_refl _) _).alloc (by simp) _).drew.drew.drew⟩

set_option maxRecDepth 100000 in
set_option maxHeartbeats 8000000 in
theorem fit_commit1 (lo b : Nat) (vB vM : Value) (vs : List Value) (B : Bufs) (M : List Int) (k j : Nat) (x1 x2 : Int) (L : List (Int × Int)) (va ne : Int) (dn : Bool) (w : World) (h : MdAt tyR w lo b vB vM vs B M) (hk : k < B.length) (hj : j < M.length) (hL : B.getD k [] = (x1, x2) :: L) :
    Calls Tryd.prog 20 #[.pointer (some ⟨b, 0, none⟩), .agg #[.int .i64 3, .int .i64 (k : Int), .int .i64 (j : Int), .int .u32 va, .int .u32 ne, .bool dn]] w fun ev w' => ev = .returned (.agg #[.int .i64 3, .int .i64 (k : Int), .int .i64 x1, .int .u32 x2, .int .u32 ne, .bool dn]) ∧ Below w.heap.size w w' := by
  have g1 : decide ((k : Int) < 0) = false := by simp
  have g2 : decide ((k : Int) ≥ (B.length : Int)) = false := by simp; omega
  have g3 : decide (B.length ≤ k) = false := by simp; omega
  have g7 : decide ((j : Int) < 0) = false := by simp
  have g8 : decide ((j : Int) ≥ (M.length : Int)) = false := by simp; omega
  have g9 : decide (M.length ≤ j) = false := by simp; omega
  obtain ⟨gB, oB, kB, sd, cp, rfl, hvk, e0, z0, hrow⟩ := h.buf hk
  rw [hL] at hvk e0 hrow
  obtain ⟨gM, oM, kM, rfl, e3, z3⟩ := h.mem hj
  have hbl := (h.lt b (.inl rfl)).2
  have C0 := Lib.hid (show ∀ W, Below w.heap.size w W → W.cell? ⟨b, 0, none⟩ = some (.slice (some ⟨gB, oB, none⟩) B.length kB) from fun W hb => (hb.cell (p := ⟨b, 0, none⟩) hbl).trans (cell_of h.blk 0))
  have C1 := Lib.hid (show ∀ W, Below w.heap.size w W → W.cell? ⟨b, 1, none⟩ = some (.slice (some ⟨gM, oM, none⟩) M.length kM) from fun W hb => (hb.cell (p := ⟨b, 1, none⟩) hbl).trans (cell_of h.blk 1))
  have hgB := (h.lt gB (.inr (.inl rfl))).2
  have E0 := Lib.hid (show ∀ W, Below w.heap.size w W → W.cell? ⟨gB, oB + k, none⟩ = some (.slice sd ((x1, x2) :: L).length cp) from fun W hb => (hb.cell (p := ⟨gB, oB + k, none⟩) hgB).trans e0)
  have ROW := Lib.hid (show winRow w lo 87 2 (.slice sd ((x1, x2) :: L).length cp) ((x1, x2) :: L).length (flatW ((x1, x2) :: L)) from hrow)
  have hkl : (k : Int) < B.length := by omega
  have HKK := Lib.hid hk
  clear e0 z0 hrow hvk hk hgB
  have hgM := (h.lt gM (.inr (.inr (.inl rfl)))).2
  have E3 := Lib.hid (show ∀ W, Below w.heap.size w W → W.cell? ⟨gM, oM + j, none⟩ = some (.int .u32 (M.getD j 0)) from fun W hb => (hb.cell (p := ⟨gM, oM + j, none⟩) hgM).trans e3)
  have hjl : (j : Int) < M.length := by omega
  have HJJ := Lib.hid hj
  clear e3 z3 hj hgM
  have HIN := Lib.hid h
  have hX := heap_alloc_new w (.cells #[.int .i64 3, .int .i64 (k : Int), .int .i64 (j : Int), .int .u32 va, .int .u32 ne, .bool dn] 24)
  have hbA : Below w.heap.size w ((w.alloc (.cells #[.int .i64 3, .int .i64 (k : Int), .int .i64 (j : Int), .int .u32 va, .int .u32 ne, .bool dn] 24)).alloc (.cells #[.int .i64 0, .int .i64 0, .int .i64 0, .int .u32 0, .int .u32 0, .bool false] 24)) := ((Below.refl _ _).alloc (Nat.le_refl _) _).alloc (by simp) _
  have hbX : Below (w.alloc (.cells #[.int .i64 3, .int .i64 (k : Int), .int .i64 (j : Int), .int .u32 va, .int .u32 ne, .bool dn] 24)).heap.size (w.alloc (.cells #[.int .i64 3, .int .i64 (k : Int), .int .i64 (j : Int), .int .u32 va, .int .u32 ne, .bool dn] 24)) ((w.alloc (.cells #[.int .i64 3, .int .i64 (k : Int), .int .i64 (j : Int), .int .u32 va, .int .u32 ne, .bool dn] 24)).alloc (.cells #[.int .i64 0, .int .i64 0, .int .i64 0, .int .u32 0, .int .u32 0, .bool false] 24)) := (Below.refl _ _).alloc (Nat.le_refl _) _
  have HBA := Lib.hid hbA
  have HBX := Lib.hid hbX
  have HX := Lib.hid hX
  clear hX hbA hbX h hbl
  go_enter Tryd.func20, Tryd.ntmps20
  go_wp2_with fail
  refine wp_region_lexA ⟨[], []⟩ (fun x => Below ((w.alloc (.cells #[.int .i64 3, .int .i64 (k : Int), .int .i64 (j : Int), .int .u32 va, .int .u32 ne, .bool dn] 24)).alloc (.cells #[.int .i64 0, .int .i64 0, .int .i64 0, .int .u32 0, .int .u32 0, .bool false] 24)).heap.size ((w.alloc (.cells #[.int .i64 3, .int .i64 (k : Int), .int .i64 (j : Int), .int .u32 va, .int .u32 ne, .bool dn] 24)).alloc (.cells #[.int .i64 0, .int .i64 0, .int .i64 0, .int .u32 0, .int .u32 0, .bool false] 24)) x) (by kernel_rfl) (by kernel_rfl) (Below.refl _ _).drew ?_
  intro S hto hof hne
  have htw : ∀ z : Wd S, Below w.heap.size w z.w := fun z => HBA.out.trans ((hto z).mono HBA.out.size)
  have htx : ∀ z : Wd S, Below (w.alloc (.cells #[.int .i64 3, .int .i64 (k : Int), .int .i64 (j : Int), .int .u32 va, .int .u32 ne, .bool dn] 24)).heap.size (w.alloc (.cells #[.int .i64 3, .int .i64 (k : Int), .int .i64 (j : Int), .int .u32 va, .int .u32 ne, .bool dn] 24)) z.w := fun z => HBX.out.trans ((hto z).mono HBX.out.size)
  have yC0 : ∀ z : Wd S, z.w.cell? ⟨b, 0, none⟩ = some (.slice (some ⟨gB, oB, none⟩) B.length kB) := fun z => C0.out z.w (htw z)
  have yC1 : ∀ z : Wd S, z.w.cell? ⟨b, 1, none⟩ = some (.slice (some ⟨gM, oM, none⟩) M.length kM) := fun z => C1.out z.w (htw z)
  have yX1 : ∀ z : Wd S, z.w.cell? ⟨w.heap.size, 1, none⟩ = some (.int .i64 (k : Int)) := fun z => ((htx z).cell (p := ⟨w.heap.size, 1, none⟩) (by simp)).trans (cell_of HX.out 1)
  have yX2 : ∀ z : Wd S, z.w.cell? ⟨w.heap.size, 2, none⟩ = some (.int .i64 (j : Int)) := fun z => ((htx z).cell (p := ⟨w.heap.size, 2, none⟩) (by simp)).trans (cell_of HX.out 2)
  have Hof := Lib.hid hof
  clear hto hof htw htx
  refine lexW_light 28 (by kernel_rfl) ?_
  simp only [List.take_succ_cons, List.take_zero, List.drop_succ_cons, List.drop_zero]
  repeat (first | go_big_quiet_skip | (go_big_quiet_want; go_big_quiet_op; go_big_quiet_on))
  refine wpQuiet_nil ?_
  refine lexW_done ?_
  clear yC0 yC1 yX1 yX2
  go_wp2_with fail
  refine wp_region_lexA ⟨[], []⟩ (fun x => Below w.heap.size w x ∧ x.cell? ⟨w.heap.size, 1, none⟩ = some (.int .i64 (k : Int))) (by kernel_rfl) (by kernel_rfl) ⟨(((Below.refl _ _).alloc (Nat.le_refl _) _).alloc (by simp) _).drew.drew, ((((Below.refl _ _).alloc (Nat.le_refl _) _).drew.drew : Below (w.alloc (.cells #[.int .i64 3, .int .i64 (k : Int), .int .i64 (j : Int), .int .u32 va, .int .u32 ne, .bool dn] 24)).heap.size (w.alloc (.cells #[.int .i64 3, .int .i64 (k : Int), .int .i64 (j : Int), .int .u32 va, .int .u32 ne, .bool dn] 24)) _).cell (p := ⟨w.heap.size, 1, none⟩) (by simp)).trans (cell_of (heap_alloc_new w (.cells #[.int .i64 3, .int .i64 (k : Int), .int .i64 (j : Int), .int .u32 va, .int .u32 ne, .bool dn] 24)) 1)⟩ ?_
  intro S hto hof hne
  have yC0 : ∀ z : Wd S, z.w.cell? ⟨b, 0, none⟩ = some (.slice (some ⟨gB, oB, none⟩) B.length kB) := fun z => C0.out z.w (hto z).1
  have yX1 : ∀ z : Wd S, z.w.cell? ⟨w.heap.size, 1, none⟩ = some (.int .i64 (k : Int)) := fun z => (hto z).2
  have yE0 : ∀ z : Wd S, z.w.cell? ⟨gB, oB + k, none⟩ = some (.slice sd ((x1, x2) :: L).length cp) := fun z => E0.out z.w (hto z).1
  have Hof := Lib.hid hof
  clear hto hof
  refine lexW_light 9 (by kernel_rfl) ?_
  simp only [List.take_succ_cons, List.take_zero, List.drop_succ_cons, List.drop_zero]
  repeat (first | go_big_quiet_skip | (go_big_quiet_want; go_big_quiet_op; go_big_quiet_on))
  refine wpQuiet_nil ?_
  refine lexW_done ?_
  clear yC0 yX1 yE0 Hof hne S
  obtain ⟨gw, ow, cw, he, _, _, hgw, hcc⟩ := ROW.out.form (by simp)
  simp only [Value.slice.injEq] at he
  obtain ⟨rfl, _, rfl⟩ := he
  have f1 := hcc 0 (.int .i64 x1) rfl
  have f2 := hcc 1 (.int .u32 x2) rfl
  rw [Nat.add_zero] at f1
  obtain ⟨len, hlen⟩ : ∃ len, len = L.length + 1 := ⟨_, rfl⟩
  rw [← hlen]
  have hl1 : (0 : Int) < len := by omega
  have hl2 : 0 < len := by omega
  have hl3 : decide (0 < len) = true := by simp; omega
  clear hcc hlen
  go_wp2_with fail
  refine wp_region_lexA ⟨[], []⟩ (fun x => Below w.heap.size w x) (by kernel_rfl) (by kernel_rfl) ((((Below.refl _ _).alloc (Nat.le_refl _) _).alloc (by simp) _).drew.drew.drew) ?_
  intro S hto hof hne
  have y1 : ∀ z : Wd S, z.w.cell? ⟨gw, ow, none⟩ = some (.int .i64 x1) := fun z => ((hto z).cell (p := ⟨gw, ow, none⟩) hgw).trans f1
  have y2 : ∀ z : Wd S, z.w.cell? ⟨gw, ow + 1, none⟩ = some (.int .u32 x2) := fun z => ((hto z).cell (p := ⟨gw, ow + 1, none⟩) hgw).trans f2
  have Hof := Lib.hid hof
  clear hto hof f1 f2 hgw
  refine lexW_light 9 (by kernel_rfl) ?_
  simp only [List.take_succ_cons, List.take_zero, List.drop_succ_cons, List.drop_zero]
  repeat (first | go_big_quiet_skip | (go_big_quiet_want; go_big_quiet_op; go_big_quiet_on))
  refine wpQuiet_nil ?_
  clear y1 y2
  refine lexW_heavy (by kernel_rfl) ?_
  go_wp2_with fail
  refine lexQ_more (Hof.out _ ((((Below.refl _ _).alloc (Nat.le_refl _) _).alloc (by simp) _).drew.drew.drew)) ?_
  refine lexW_light 1 (by kernel_rfl) ?_
  simp only [List.take_succ_cons, List.take_zero, List.drop_succ_cons, List.drop_zero]
  repeat (first | go_big_quiet_skip | (go_big_quiet_want; go_big_quiet_op; go_big_quiet_on))
  refine wpQuiet_nil ?_
  refine lexW_heavy (by kernel_rfl) ?_
  go_wp2_with fail
  refine lexQ_more (Hof.out _ ((((Below.refl _ _).alloc (Nat.le_refl _) _).alloc (by simp) _).drew.drew.drew)) ?_
  refine lexW_done ?_
  go_wp2_with fail
  refine bodyPost_ret_by (v := .agg #[.int .i64 3, .int .i64 (k : Int), .int .i64 x1, .int .u32 x2, .int .u32 ne, .bool dn]) (by simp [results, Tryd.results20, go_sem]) rfl ?_
  exact ⟨rfl, by first | exact HBA.out.drew | exact (((Below.refl _ _).alloc (Nat.le_refl _) _).alloc (by simp) _).drew | exact (((Below.refl _ _).alloc (Nat.le_refl _) _).alloc (by simp) _).drew.drew | exact (((Below.refl _ _).alloc (Nat.le_refl _) _).alloc (by simp) _).drew.drew.drew⟩

set_option maxRecDepth 100000 in
set_option maxHeartbeats 8000000 in
theorem fit_cas (lo b : Nat) (vB vM : Value) (vs : List Value) (B : Bufs) (M : List Int) (k j : Nat) (va ne : Int) (dn : Bool) (w : World) (h : MdAt tyR w lo b vB vM vs B M) (hk : k < B.length) (hj : j < M.length) :
    Calls Tryd.prog 20 #[.pointer (some ⟨b, 0, none⟩), .agg #[.int .i64 4, .int .i64 (k : Int), .int .i64 (j : Int), .int .u32 va, .int .u32 ne, .bool dn]] w fun ev w' => ev = .returned (.agg #[.int .i64 4, .int .i64 (k : Int), .int .i64 (j : Int), .int .u32 (M.getD j 0), .int .u32 ne, .bool dn]) ∧ Below w.heap.size w w' := by
  have g1 : decide ((k : Int) < 0) = false := by simp
  have g2 : decide ((k : Int) ≥ (B.length : Int)) = false := by simp; omega
  have g3 : decide (B.length ≤ k) = false := by simp; omega
  have g7 : decide ((j : Int) < 0) = false := by simp
  have g8 : decide ((j : Int) ≥ (M.length : Int)) = false := by simp; omega
  have g9 : decide (M.length ≤ j) = false := by simp; omega
  obtain ⟨gB, oB, kB, sd, cp, rfl, hvk, e0, z0, hrow⟩ := h.buf hk
  obtain ⟨gM, oM, kM, rfl, e3, z3⟩ := h.mem hj
  have hbl := (h.lt b (.inl rfl)).2
  have C0 := Lib.hid (show ∀ W, Below w.heap.size w W → W.cell? ⟨b, 0, none⟩ = some (.slice (some ⟨gB, oB, none⟩) B.length kB) from fun W hb => (hb.cell (p := ⟨b, 0, none⟩) hbl).trans (cell_of h.blk 0))
  have C1 := Lib.hid (show ∀ W, Below w.heap.size w W → W.cell? ⟨b, 1, none⟩ = some (.slice (some ⟨gM, oM, none⟩) M.length kM) from fun W hb => (hb.cell (p := ⟨b, 1, none⟩) hbl).trans (cell_of h.blk 1))
  have hgB := (h.lt gB (.inr (.inl rfl))).2
  have E0 := Lib.hid (show ∀ W, Below w.heap.size w W → W.cell? ⟨gB, oB + k, none⟩ = some (.slice sd (B.getD k []).length cp) from fun W hb => (hb.cell (p := ⟨gB, oB + k, none⟩) hgB).trans e0)
  have ROW := Lib.hid (show winRow w lo 87 2 (.slice sd (B.getD k []).length cp) (B.getD k []).length (flatW (B.getD k [])) from hrow)
  have hkl : (k : Int) < B.length := by omega
  have HKK := Lib.hid hk
  clear e0 z0 hrow hvk hk hgB
  have hgM := (h.lt gM (.inr (.inr (.inl rfl)))).2
  have E3 := Lib.hid (show ∀ W, Below w.heap.size w W → W.cell? ⟨gM, oM + j, none⟩ = some (.int .u32 (M.getD j 0)) from fun W hb => (hb.cell (p := ⟨gM, oM + j, none⟩) hgM).trans e3)
  have hjl : (j : Int) < M.length := by omega
  have HJJ := Lib.hid hj
  clear e3 z3 hj hgM
  have HIN := Lib.hid h
  have hX := heap_alloc_new w (.cells #[.int .i64 4, .int .i64 (k : Int), .int .i64 (j : Int), .int .u32 va, .int .u32 ne, .bool dn] 24)
  have hbA : Below w.heap.size w ((w.alloc (.cells #[.int .i64 4, .int .i64 (k : Int), .int .i64 (j : Int), .int .u32 va, .int .u32 ne, .bool dn] 24)).alloc (.cells #[.int .i64 0, .int .i64 0, .int .i64 0, .int .u32 0, .int .u32 0, .bool false] 24)) := ((Below.refl _ _).alloc (Nat.le_refl _) _).alloc (by simp) _
  have hbX : Below (w.alloc (.cells #[.int .i64 4, .int .i64 (k : Int), .int .i64 (j : Int), .int .u32 va, .int .u32 ne, .bool dn] 24)).heap.size (w.alloc (.cells #[.int .i64 4, .int .i64 (k : Int), .int .i64 (j : Int), .int .u32 va, .int .u32 ne, .bool dn] 24)) ((w.alloc (.cells #[.int .i64 4, .int .i64 (k : Int), .int .i64 (j : Int), .int .u32 va, .int .u32 ne, .bool dn] 24)).alloc (.cells #[.int .i64 0, .int .i64 0, .int .i64 0, .int .u32 0, .int .u32 0, .bool false] 24)) := (Below.refl _ _).alloc (Nat.le_refl _) _
  have HBA := Lib.hid hbA
  have HBX := Lib.hid hbX
  have HX := Lib.hid hX
  clear hX hbA hbX h hbl
  go_enter Tryd.func20, Tryd.ntmps20
  go_wp2_with fail
  refine wp_region_lexA ⟨[], []⟩ (fun x => Below ((w.alloc (.cells #[.int .i64 4, .int .i64 (k : Int), .int .i64 (j : Int), .int .u32 va, .int .u32 ne, .bool dn] 24)).alloc (.cells #[.int .i64 0, .int .i64 0, .int .i64 0, .int .u32 0, .int .u32 0, .bool false] 24)).heap.size ((w.alloc (.cells #[.int .i64 4, .int .i64 (k : Int), .int .i64 (j : Int), .int .u32 va, .int .u32 ne, .bool dn] 24)).alloc (.cells #[.int .i64 0, .int .i64 0, .int .i64 0, .int .u32 0, .int .u32 0, .bool false] 24)) x) (by kernel_rfl) (by kernel_rfl) (Below.refl _ _).drew ?_
  intro S hto hof hne
  have htw : ∀ z : Wd S, Below w.heap.size w z.w := fun z => HBA.out.trans ((hto z).mono HBA.out.size)
  have htx : ∀ z : Wd S, Below (w.alloc (.cells #[.int .i64 4, .int .i64 (k : Int), .int .i64 (j : Int), .int .u32 va, .int .u32 ne, .bool dn] 24)).heap.size (w.alloc (.cells #[.int .i64 4, .int .i64 (k : Int), .int .i64 (j : Int), .int .u32 va, .int .u32 ne, .bool dn] 24)) z.w := fun z => HBX.out.trans ((hto z).mono HBX.out.size)
  have yC0 : ∀ z : Wd S, z.w.cell? ⟨b, 0, none⟩ = some (.slice (some ⟨gB, oB, none⟩) B.length kB) := fun z => C0.out z.w (htw z)
  have yC1 : ∀ z : Wd S, z.w.cell? ⟨b, 1, none⟩ = some (.slice (some ⟨gM, oM, none⟩) M.length kM) := fun z => C1.out z.w (htw z)
  have yX1 : ∀ z : Wd S, z.w.cell? ⟨w.heap.size, 1, none⟩ = some (.int .i64 (k : Int)) := fun z => ((htx z).cell (p := ⟨w.heap.size, 1, none⟩) (by simp)).trans (cell_of HX.out 1)
  have yX2 : ∀ z : Wd S, z.w.cell? ⟨w.heap.size, 2, none⟩ = some (.int .i64 (j : Int)) := fun z => ((htx z).cell (p := ⟨w.heap.size, 2, none⟩) (by simp)).trans (cell_of HX.out 2)
  have Hof := Lib.hid hof
  clear hto hof htw htx
  refine lexW_light 28 (by kernel_rfl) ?_
  simp only [List.take_succ_cons, List.take_zero, List.drop_succ_cons, List.drop_zero]
  repeat (first | go_big_quiet_skip | (go_big_quiet_want; go_big_quiet_op; go_big_quiet_on))
  refine wpQuiet_nil ?_
  refine lexW_done ?_
  clear yC0 yC1 yX1 yX2
  go_wp2_with fail
  refine wp_region_lexA ⟨[], []⟩ (fun x => Below w.heap.size w x ∧ x.cell? ⟨w.heap.size, 2, none⟩ = some (.int .i64 (j : Int))) (by kernel_rfl) (by kernel_rfl) ⟨(((Below.refl _ _).alloc (Nat.le_refl _) _).alloc (by simp) _).drew.drew, ((((Below.refl _ _).alloc (Nat.le_refl _) _).drew.drew : Below (w.alloc (.cells #[.int .i64 4, .int .i64 (k : Int), .int .i64 (j : Int), .int .u32 va, .int .u32 ne, .bool dn] 24)).heap.size (w.alloc (.cells #[.int .i64 4, .int .i64 (k : Int), .int .i64 (j : Int), .int .u32 va, .int .u32 ne, .bool dn] 24)) _).cell (p := ⟨w.heap.size, 2, none⟩) (by simp)).trans (cell_of (heap_alloc_new w (.cells #[.int .i64 4, .int .i64 (k : Int), .int .i64 (j : Int), .int .u32 va, .int .u32 ne, .bool dn] 24)) 2)⟩ ?_
  intro S hto hof hne
  have yC1 : ∀ z : Wd S, z.w.cell? ⟨b, 1, none⟩ = some (.slice (some ⟨gM, oM, none⟩) M.length kM) := fun z => C1.out z.w (hto z).1
  have yX2 : ∀ z : Wd S, z.w.cell? ⟨w.heap.size, 2, none⟩ = some (.int .i64 (j : Int)) := fun z => (hto z).2
  have yE3 : ∀ z : Wd S, z.w.cell? ⟨gM, oM + j, none⟩ = some (.int .u32 (M.getD j 0)) := fun z => E3.out z.w (hto z).1
  have Hof := Lib.hid hof
  clear hto hof
  refine lexW_light 9 (by kernel_rfl) ?_
  simp only [List.take_succ_cons, List.take_zero, List.drop_succ_cons, List.drop_zero]
  repeat (first | go_big_quiet_skip | (go_big_quiet_want; go_big_quiet_op; go_big_quiet_on))
  refine wpQuiet_nil ?_
  clear yC1 yX2 yE3
  refine lexW_heavy (by kernel_rfl) ?_
  go_wp2_with fail
  refine lexQ_more (Hof.out _ ⟨(((Below.refl _ _).alloc (Nat.le_refl _) _).alloc (by simp) _).drew.drew, ((((Below.refl _ _).alloc (Nat.le_refl _) _).drew.drew : Below (w.alloc (.cells #[.int .i64 4, .int .i64 (k : Int), .int .i64 (j : Int), .int .u32 (M.getD j 0), .int .u32 ne, .bool dn] 24)).heap.size (w.alloc (.cells #[.int .i64 4, .int .i64 (k : Int), .int .i64 (j : Int), .int .u32 (M.getD j 0), .int .u32 ne, .bool dn] 24)) _).cell (p := ⟨w.heap.size, 2, none⟩) (by simp)).trans (cell_of (heap_alloc_new w (.cells #[.int .i64 4, .int .i64 (k : Int), .int .i64 (j : Int), .int .u32 (M.getD j 0), .int .u32 ne, .bool dn] 24)) 2)⟩) ?_
  refine lexW_done ?_
  go_wp2_with fail
  refine bodyPost_ret_by (v := .agg #[.int .i64 4, .int .i64 (k : Int), .int .i64 (j : Int), .int .u32 (M.getD j 0), .int .u32 ne, .bool dn]) (by simp [results, Tryd.results20, go_sem]) rfl ?_
  exact ⟨rfl, by first | exact HBA.out.drew | exact (((Below.refl _ _).alloc (Nat.le_refl _) _).alloc (by simp) _).drew | exact (((Below.refl _ _).alloc (Nat.le_refl _) _).alloc (by simp) _).drew.drew | exact (((Below.refl _ _).alloc (Nat.le_refl _) _).alloc (by simp) _).drew.drew.drew⟩

/-- fit, whole. -/
theorem fit_c (lo b : Nat) (F : Nat → Prop) (B : Bufs) (M : List Int) (e : Ev) (w : World) (h : Md tyR w lo b F B M) :
    Calls Tryd.prog 20 #[.pointer (some ⟨b, 0, none⟩), e.v] w fun ev w' => ev = .returned (fitE B M e).v ∧ Below w.heap.size w w' := by
  obtain ⟨vB, vM, vs, hA, rfl⟩ := h
  obtain ⟨kd, co, ad, va, ne, dn⟩ := e
  by_cases c1 : co < 0
  · rw [show fitE B M ⟨kd, co, ad, va, ne, dn⟩ = ⟨kd, co, ad, va, ne, dn⟩ by unfold fitE; rw [if_neg fun hh => by have := hh.1.1; simp only at this; omega]]
    exact fit_b1 lo b vB vM vs B M kd co ad va ne dn w hA c1
  by_cases c2 : (B.length : Int) ≤ co
  · rw [show fitE B M ⟨kd, co, ad, va, ne, dn⟩ = ⟨kd, co, ad, va, ne, dn⟩ by unfold fitE; rw [if_neg fun hh => by have := hh.1.2; simp only at this; omega]]
    exact fit_b2 lo b vB vM vs B M kd co ad va ne dn w hA (by omega) c2
  obtain ⟨k, rfl⟩ := Int.eq_ofNat_of_zero_le (show 0 ≤ co by omega)
  have hk : k < B.length := by omega
  have hcc : okC B (k : Int) := ⟨by omega, by omega⟩
  by_cases c6 : ad < 0
  · rw [show fitE B M ⟨kd, k, ad, va, ne, dn⟩ = ⟨kd, k, ad, va, ne, dn⟩ by unfold fitE; rw [if_neg fun hh => by have := hh.2.1; simp only at this; omega]]
    exact fit_b3 lo b vB vM vs B M k kd ad va ne dn w hA hk c6
  by_cases c7 : (M.length : Int) ≤ ad
  · rw [show fitE B M ⟨kd, k, ad, va, ne, dn⟩ = ⟨kd, k, ad, va, ne, dn⟩ by unfold fitE; rw [if_neg fun hh => by have := hh.2.2; simp only at this; omega]]
    exact fit_b4 lo b vB vM vs B M k kd ad va ne dn w hA hk (by omega) c7
  obtain ⟨j, rfl⟩ := Int.eq_ofNat_of_zero_le (show 0 ≤ ad by omega)
  have hj : j < M.length := by omega
  have haa : okA M (j : Int) := ⟨by omega, by omega⟩
  have hif : fitE B M ⟨kd, k, j, va, ne, dn⟩ = _ := if_pos ⟨hcc, haa⟩
  rw [hif]
  by_cases k1 : kd = 1
  · subst k1
    exact fit_load lo b vB vM vs B M k j va ne dn w hA hk hj
  by_cases k3 : kd = 3
  · subst k3
    simp only [Int.toNat_natCast]
    cases hL : B.getD k [] with
    | nil => exact fit_commit0 lo b vB vM vs B M k j va ne dn w hA hk hj hL
    | cons x L => exact fit_commit1 lo b vB vM vs B M k j x.1 x.2 L va ne dn w hA hk hj hL
  by_cases k4 : kd = 4
  · subst k4
    exact fit_cas lo b vB vM vs B M k j va ne dn w hA hk hj
  · simp only [k1, k3, k4, if_false]
    exact fit_oth lo b vB vM vs B M k j kd va ne dn w hA hk hj k1 k3 k4

end Go.Proofs.YtamklohnmbgklaaDoor
