/- The memory model's Step (the program's). -/
import Derived.Test.YtamklohnmbgklaaDoorTs6
import Derived.Test.YtamklohnmbgklaaDoorLexN
namespace Go.Proofs.YtamklohnmbgklaaDoor
open Go.RowKit Go.Extern.Stop Go.Stop Go.Extern

def tsT : ByteArray := ⟨#[116, 115, 111, 46, 83, 116, 101, 112]⟩
def stepE (B : Bufs) (M : List Int) (e : Ev) : ErrT := if stC B M e = 0 then .nil else .wrap tsT e.core (.sent (stC B M e - 1))

set_option maxRecDepth 100000 in
set_option maxHeartbeats 4000000 in
theorem tstep_no (A : Nat → Addr) (lo b : Nat) (vB vM : Value) (vs : List Value) (B : Bufs) (M : List Int) (e : Ev) (w : World) (hs : SentAt w A) (h : MdAt tyP w lo b vB vM vs B M) (hM : 0 < M.length) (hc : stC B M e ≠ 0) :
    Calls Tryd.prog 26 #[.pointer (some ⟨b, 0, none⟩), e.v] w fun ev w' => ev = .returned ((stepE B M e).val A) ∧ Below w.heap.size w w' := by
  rw [show stepE B M e = .wrap tsT e.core (.sent (stC B M e - 1)) by unfold stepE; rw [if_neg hc]]
  have HRF := Lib.hid (fun W hs h => refused_c A lo b vB vM vs B M e W hs h hM)
  have HE := Lib.hid (show errS (stC B M e) = .sent (stC B M e - 1) by unfold errS; rw [if_neg hc])
  generalize stC B M e = c at *
  obtain ⟨kd, co, ad, va, ne, dn⟩ := e
  simp only [Ev.v] at HRF ⊢
  have hX := heap_alloc_new w (.cells #[.int .i64 kd, .int .i64 co, .int .i64 ad, .int .u32 va, .int .u32 ne, .bool dn] 24)
  have hb0 : Below w.heap.size w (w.alloc (.cells #[.int .i64 kd, .int .i64 co, .int .i64 ad, .int .u32 va, .int .u32 ne, .bool dn] 24)) := (Below.refl _ _).alloc (Nat.le_refl _) _
  have HS := Lib.hid (hs.below hb0)
  have HH := Lib.hid (h.below hb0)
  have HB0 := Lib.hid hb0
  have HX := Lib.hid hX
  clear hX hb0 h hM hs hc
  go_enter Tryd.func26, Tryd.ntmps26
  go_wp2_with fail
  refine (HRF.out _ HS.out HH.out).mono ?_
  rintro ev w' ⟨rfl, hb1⟩
  rw [HE.out, show (ErrT.sent (c - 1)).val A = .iface 129 (.pointer (some (A (c - 1)))) from rfl]
  have hX1 := (hb1.block _ (Array.getElem?_eq_some_iff.1 HX.out).1).trans HX.out
  have q1 := cell_of hX1 1
  simp only [List.getElem?_toArray, List.getElem?_cons_zero, List.getElem?_cons_succ] at q1
  have HB1 := Lib.hid (HB0.out.trans (hb1.mono HB0.out.size))
  clear hX1 hb1
  go_wp2_with fail
  change Calls Tryd.prog _ #[_, _, (ErrT.sent (c - 1)).val A] _ _
  refine (wrap_c A tsT co (.sent (c - 1)) _).mono ?_
  rintro ev w' ⟨rfl, hww⟩
  obtain rfl := hww.symm
  rw [show (wrapE tsT co (.sent (c - 1))).val A = .iface 78 (.agg #[.string tsT, .int .i64 co, .iface 129 (.pointer (some (A (c - 1))))]) from rfl]
  go_wp2_with fail
  go_ret
  exact ⟨rfl, HB1.out⟩

set_option maxRecDepth 100000 in
set_option maxHeartbeats 8000000 in
theorem tstep_load (A : Nat → Addr) (lo b : Nat) (vB vM : Value) (vs : List Value) (B : Bufs) (M : List Int) (k : Nat) (j : Nat) (va ne : Int) (dn : Bool) (w : World) (hs : SentAt w A) (h : MdAt tyP w lo b vB vM vs B M) (hM : 0 < M.length) (hk : k < B.length) (hc : stC B M ⟨1, k, (j : Int), va, ne, dn⟩ = 0) :
    Calls Tryd.prog 26 #[.pointer (some ⟨b, 0, none⟩), .agg #[.int .i64 1, .int .i64 (k : Int), .int .i64 (j : Int), .int .u32 va, .int .u32 ne, .bool dn]] w fun ev w' => ev = .returned .nilIface ∧ StepP tyP w w' lo b vB vM vs B M := by
  have HRF := Lib.hid (fun W hs h => refused_c A lo b vB vM vs B M ⟨1, k, (j : Int), va, ne, dn⟩ W hs h hM)
  have HE := Lib.hid (show errS (stC B M ⟨1, k, (j : Int), va, ne, dn⟩) = .nil by unfold errS; rw [if_pos hc])
  generalize stC B M ⟨1, k, (j : Int), va, ne, dn⟩ = c at *
  simp only [Ev.v] at HRF
  have hX := heap_alloc_new w (.cells #[.int .i64 1, .int .i64 (k : Int), .int .i64 (j : Int), .int .u32 va, .int .u32 ne, .bool dn] 24)
  have hb0 : Below w.heap.size w (w.alloc (.cells #[.int .i64 1, .int .i64 (k : Int), .int .i64 (j : Int), .int .u32 va, .int .u32 ne, .bool dn] 24)) := (Below.refl _ _).alloc (Nat.le_refl _) _
  have HS := Lib.hid (hs.below hb0)
  have HH := Lib.hid (h.below hb0)
  have HW := Lib.hid h
  have HB0 := Lib.hid hb0
  have HX := Lib.hid hX
  have HKK := Lib.hid hk
  clear hX hb0 h hM hs hc hk
  go_enter Tryd.func26, Tryd.ntmps26
  go_wp2_with fail
  refine (HRF.out _ HS.out HH.out).mono ?_
  rintro ev w1 ⟨rfl, hb1⟩
  rw [HE.out, show ErrT.nil.val A = .nilIface from rfl]
  have hX1 := (hb1.block _ (Array.getElem?_eq_some_iff.1 HX.out).1).trans HX.out
  have hb2 := HB0.out.trans (hb1.mono HB0.out.size)
  have HH1 := Lib.hid (HH.out.below hb1)
  have q0 := cell_of hX1 0
  have q1 := cell_of hX1 1
  have q2 := cell_of hX1 2
  have q3 := cell_of hX1 3
  have q4 := cell_of hX1 4
  have q5 := cell_of hX1 5
  simp only [List.getElem?_toArray, List.getElem?_cons_zero, List.getElem?_cons_succ] at q0 q1 q2 q3 q4 q5
  have hxl := (Array.getElem?_eq_some_iff.1 hX1).1
  clear hX1 hb1 HRF HS HH HX
  have hbl := (HH1.out.lt b (.inl rfl)).2
  have c0 := cell_of HH1.out.blk 0
  simp only [List.getElem?_toArray, List.getElem?_cons_zero] at c0
  obtain ⟨gB, oB, kB, sd, cp, hvB, hvk, _, _, _⟩ := HH1.out.buf HKK.out
  rw [hvB] at c0
  have HVB := Lib.hid hvB
  have HVK := Lib.hid hvk
  have HB2 := Lib.hid hb2
  have hkl : (k : Int) < B.length := by have := HKK.out; omega
  clear hvB hvk hb2
  go_wp2_with fail
  refine wp_region_lexA ⟨[], []⟩ (fun x => Below w1.heap.size w1 x) (by kernel_rfl) (by kernel_rfl) (Below.refl _ _).drew ?_
  intro S hto hof hne
  have y0 : ∀ z : Wd S, z.w.cell? ⟨b, 0, none⟩ = some (.slice (some ⟨gB, oB, none⟩) B.length kB) := fun z => ((hto z).cell (p := ⟨b, 0, none⟩) hbl).trans c0
  have y1 : ∀ z : Wd S, z.w.cell? ⟨w.heap.size, 1, none⟩ = some (.int .i64 k) := fun z => ((hto z).cell (p := ⟨w.heap.size, 1, none⟩) hxl).trans q1
  have Hof := Lib.hid hof
  clear hto hof c0
  refine lexW_light 8 (by kernel_rfl) ?_
  simp only [List.take_succ_cons, List.take_zero, List.drop_succ_cons, List.drop_zero]
  repeat (first | go_big_quiet_skip | (go_big_quiet_want; go_big_quiet_op; go_big_quiet_on))
  refine wpQuiet_nil ?_
  refine lexW_done ?_
  clear y0 y1
  have hD : Below w1.heap.size w1 w1.drew := (Below.refl _ _).drew
  have q0 := (hD.cell (p := ⟨w.heap.size, 0, none⟩) hxl).trans q0
  have q1 := (hD.cell (p := ⟨w.heap.size, 1, none⟩) hxl).trans q1
  have q2 := (hD.cell (p := ⟨w.heap.size, 2, none⟩) hxl).trans q2
  have q3 := (hD.cell (p := ⟨w.heap.size, 3, none⟩) hxl).trans q3
  have q4 := (hD.cell (p := ⟨w.heap.size, 4, none⟩) hxl).trans q4
  have q5 := (hD.cell (p := ⟨w.heap.size, 5, none⟩) hxl).trans q5
  have HH2 := Lib.hid (HH1.out.below hD)
  have HB3 := Lib.hid (HB2.out.trans (hD.mono HB2.out.size))
  have hxl := Nat.lt_of_lt_of_le hxl hD.size
  have hbl := Nat.lt_of_lt_of_le hbl hD.size
  have HSZ := Lib.hid (show w.heap.size < w1.heap.size from by assumption)
  generalize w1.drew = W at *
  clear hD
  go_wp2_with fail
  go_ret
  exact ⟨rfl, StepP.same HW.out HB3.out⟩

set_option maxRecDepth 100000 in
set_option maxHeartbeats 8000000 in
theorem tstep_fence (A : Nat → Addr) (lo b : Nat) (vB vM : Value) (vs : List Value) (B : Bufs) (M : List Int) (k : Nat) (ad : Int) (va ne : Int) (dn : Bool) (w : World) (hs : SentAt w A) (h : MdAt tyP w lo b vB vM vs B M) (hM : 0 < M.length) (hk : k < B.length) (hc : stC B M ⟨5, k, ad, va, ne, dn⟩ = 0) :
    Calls Tryd.prog 26 #[.pointer (some ⟨b, 0, none⟩), .agg #[.int .i64 5, .int .i64 (k : Int), .int .i64 ad, .int .u32 va, .int .u32 ne, .bool dn]] w fun ev w' => ev = .returned .nilIface ∧ StepP tyP w w' lo b vB vM vs B M := by
  have HRF := Lib.hid (fun W hs h => refused_c A lo b vB vM vs B M ⟨5, k, ad, va, ne, dn⟩ W hs h hM)
  have HE := Lib.hid (show errS (stC B M ⟨5, k, ad, va, ne, dn⟩) = .nil by unfold errS; rw [if_pos hc])
  generalize stC B M ⟨5, k, ad, va, ne, dn⟩ = c at *
  simp only [Ev.v] at HRF
  have hX := heap_alloc_new w (.cells #[.int .i64 5, .int .i64 (k : Int), .int .i64 ad, .int .u32 va, .int .u32 ne, .bool dn] 24)
  have hb0 : Below w.heap.size w (w.alloc (.cells #[.int .i64 5, .int .i64 (k : Int), .int .i64 ad, .int .u32 va, .int .u32 ne, .bool dn] 24)) := (Below.refl _ _).alloc (Nat.le_refl _) _
  have HS := Lib.hid (hs.below hb0)
  have HH := Lib.hid (h.below hb0)
  have HW := Lib.hid h
  have HB0 := Lib.hid hb0
  have HX := Lib.hid hX
  have HKK := Lib.hid hk
  clear hX hb0 h hM hs hc hk
  go_enter Tryd.func26, Tryd.ntmps26
  go_wp2_with fail
  refine (HRF.out _ HS.out HH.out).mono ?_
  rintro ev w1 ⟨rfl, hb1⟩
  rw [HE.out, show ErrT.nil.val A = .nilIface from rfl]
  have hX1 := (hb1.block _ (Array.getElem?_eq_some_iff.1 HX.out).1).trans HX.out
  have hb2 := HB0.out.trans (hb1.mono HB0.out.size)
  have HH1 := Lib.hid (HH.out.below hb1)
  have q0 := cell_of hX1 0
  have q1 := cell_of hX1 1
  have q2 := cell_of hX1 2
  have q3 := cell_of hX1 3
  have q4 := cell_of hX1 4
  have q5 := cell_of hX1 5
  simp only [List.getElem?_toArray, List.getElem?_cons_zero, List.getElem?_cons_succ] at q0 q1 q2 q3 q4 q5
  have hxl := (Array.getElem?_eq_some_iff.1 hX1).1
  clear hX1 hb1 HRF HS HH HX
  have hbl := (HH1.out.lt b (.inl rfl)).2
  have c0 := cell_of HH1.out.blk 0
  simp only [List.getElem?_toArray, List.getElem?_cons_zero] at c0
  obtain ⟨gB, oB, kB, sd, cp, hvB, hvk, _, _, _⟩ := HH1.out.buf HKK.out
  rw [hvB] at c0
  have HVB := Lib.hid hvB
  have HVK := Lib.hid hvk
  have HB2 := Lib.hid hb2
  have hkl : (k : Int) < B.length := by have := HKK.out; omega
  clear hvB hvk hb2
  go_wp2_with fail
  refine wp_region_lexA ⟨[], []⟩ (fun x => Below w1.heap.size w1 x) (by kernel_rfl) (by kernel_rfl) (Below.refl _ _).drew ?_
  intro S hto hof hne
  have y0 : ∀ z : Wd S, z.w.cell? ⟨b, 0, none⟩ = some (.slice (some ⟨gB, oB, none⟩) B.length kB) := fun z => ((hto z).cell (p := ⟨b, 0, none⟩) hbl).trans c0
  have y1 : ∀ z : Wd S, z.w.cell? ⟨w.heap.size, 1, none⟩ = some (.int .i64 k) := fun z => ((hto z).cell (p := ⟨w.heap.size, 1, none⟩) hxl).trans q1
  have Hof := Lib.hid hof
  clear hto hof c0
  refine lexW_light 8 (by kernel_rfl) ?_
  simp only [List.take_succ_cons, List.take_zero, List.drop_succ_cons, List.drop_zero]
  repeat (first | go_big_quiet_skip | (go_big_quiet_want; go_big_quiet_op; go_big_quiet_on))
  refine wpQuiet_nil ?_
  refine lexW_done ?_
  clear y0 y1
  have hD : Below w1.heap.size w1 w1.drew := (Below.refl _ _).drew
  have q0 := (hD.cell (p := ⟨w.heap.size, 0, none⟩) hxl).trans q0
  have q1 := (hD.cell (p := ⟨w.heap.size, 1, none⟩) hxl).trans q1
  have q2 := (hD.cell (p := ⟨w.heap.size, 2, none⟩) hxl).trans q2
  have q3 := (hD.cell (p := ⟨w.heap.size, 3, none⟩) hxl).trans q3
  have q4 := (hD.cell (p := ⟨w.heap.size, 4, none⟩) hxl).trans q4
  have q5 := (hD.cell (p := ⟨w.heap.size, 5, none⟩) hxl).trans q5
  have HH2 := Lib.hid (HH1.out.below hD)
  have HB3 := Lib.hid (HB2.out.trans (hD.mono HB2.out.size))
  have hxl := Nat.lt_of_lt_of_le hxl hD.size
  have hbl := Nat.lt_of_lt_of_le hbl hD.size
  have HSZ := Lib.hid (show w.heap.size < w1.heap.size from by assumption)
  generalize w1.drew = W at *
  clear hD
  go_wp2_with fail
  go_ret
  exact ⟨rfl, StepP.same HW.out HB3.out⟩

set_option maxRecDepth 100000 in
set_option maxHeartbeats 8000000 in
theorem tstep_casn (A : Nat → Addr) (lo b : Nat) (vB vM : Value) (vs : List Value) (B : Bufs) (M : List Int) (k : Nat) (j : Nat) (va ne : Int) (w : World) (hs : SentAt w A) (h : MdAt tyP w lo b vB vM vs B M) (hM : 0 < M.length) (hk : k < B.length) (hc : stC B M ⟨4, k, (j : Int), va, ne, false⟩ = 0) :
    Calls Tryd.prog 26 #[.pointer (some ⟨b, 0, none⟩), .agg #[.int .i64 4, .int .i64 (k : Int), .int .i64 (j : Int), .int .u32 va, .int .u32 ne, .bool false]] w fun ev w' => ev = .returned .nilIface ∧ StepP tyP w w' lo b vB vM vs B M := by
  have HRF := Lib.hid (fun W hs h => refused_c A lo b vB vM vs B M ⟨4, k, (j : Int), va, ne, false⟩ W hs h hM)
  have HE := Lib.hid (show errS (stC B M ⟨4, k, (j : Int), va, ne, false⟩) = .nil by unfold errS; rw [if_pos hc])
  generalize stC B M ⟨4, k, (j : Int), va, ne, false⟩ = c at *
  simp only [Ev.v] at HRF
  have hX := heap_alloc_new w (.cells #[.int .i64 4, .int .i64 (k : Int), .int .i64 (j : Int), .int .u32 va, .int .u32 ne, .bool false] 24)
  have hb0 : Below w.heap.size w (w.alloc (.cells #[.int .i64 4, .int .i64 (k : Int), .int .i64 (j : Int), .int .u32 va, .int .u32 ne, .bool false] 24)) := (Below.refl _ _).alloc (Nat.le_refl _) _
  have HS := Lib.hid (hs.below hb0)
  have HH := Lib.hid (h.below hb0)
  have HW := Lib.hid h
  have HB0 := Lib.hid hb0
  have HX := Lib.hid hX
  have HKK := Lib.hid hk
  clear hX hb0 h hM hs hc hk
  go_enter Tryd.func26, Tryd.ntmps26
  go_wp2_with fail
  refine (HRF.out _ HS.out HH.out).mono ?_
  rintro ev w1 ⟨rfl, hb1⟩
  rw [HE.out, show ErrT.nil.val A = .nilIface from rfl]
  have hX1 := (hb1.block _ (Array.getElem?_eq_some_iff.1 HX.out).1).trans HX.out
  have hb2 := HB0.out.trans (hb1.mono HB0.out.size)
  have HH1 := Lib.hid (HH.out.below hb1)
  have q0 := cell_of hX1 0
  have q1 := cell_of hX1 1
  have q2 := cell_of hX1 2
  have q3 := cell_of hX1 3
  have q4 := cell_of hX1 4
  have q5 := cell_of hX1 5
  simp only [List.getElem?_toArray, List.getElem?_cons_zero, List.getElem?_cons_succ] at q0 q1 q2 q3 q4 q5
  have hxl := (Array.getElem?_eq_some_iff.1 hX1).1
  clear hX1 hb1 HRF HS HH HX
  have hbl := (HH1.out.lt b (.inl rfl)).2
  have c0 := cell_of HH1.out.blk 0
  simp only [List.getElem?_toArray, List.getElem?_cons_zero] at c0
  obtain ⟨gB, oB, kB, sd, cp, hvB, hvk, _, _, _⟩ := HH1.out.buf HKK.out
  rw [hvB] at c0
  have HVB := Lib.hid hvB
  have HVK := Lib.hid hvk
  have HB2 := Lib.hid hb2
  have hkl : (k : Int) < B.length := by have := HKK.out; omega
  clear hvB hvk hb2
  go_wp2_with fail
  refine wp_region_lexA ⟨[], []⟩ (fun x => Below w1.heap.size w1 x) (by kernel_rfl) (by kernel_rfl) (Below.refl _ _).drew ?_
  intro S hto hof hne
  have y0 : ∀ z : Wd S, z.w.cell? ⟨b, 0, none⟩ = some (.slice (some ⟨gB, oB, none⟩) B.length kB) := fun z => ((hto z).cell (p := ⟨b, 0, none⟩) hbl).trans c0
  have y1 : ∀ z : Wd S, z.w.cell? ⟨w.heap.size, 1, none⟩ = some (.int .i64 k) := fun z => ((hto z).cell (p := ⟨w.heap.size, 1, none⟩) hxl).trans q1
  have Hof := Lib.hid hof
  clear hto hof c0
  refine lexW_light 8 (by kernel_rfl) ?_
  simp only [List.take_succ_cons, List.take_zero, List.drop_succ_cons, List.drop_zero]
  repeat (first | go_big_quiet_skip | (go_big_quiet_want; go_big_quiet_op; go_big_quiet_on))
  refine wpQuiet_nil ?_
  refine lexW_done ?_
  clear y0 y1
  have hD : Below w1.heap.size w1 w1.drew := (Below.refl _ _).drew
  have q0 := (hD.cell (p := ⟨w.heap.size, 0, none⟩) hxl).trans q0
  have q1 := (hD.cell (p := ⟨w.heap.size, 1, none⟩) hxl).trans q1
  have q2 := (hD.cell (p := ⟨w.heap.size, 2, none⟩) hxl).trans q2
  have q3 := (hD.cell (p := ⟨w.heap.size, 3, none⟩) hxl).trans q3
  have q4 := (hD.cell (p := ⟨w.heap.size, 4, none⟩) hxl).trans q4
  have q5 := (hD.cell (p := ⟨w.heap.size, 5, none⟩) hxl).trans q5
  have HH2 := Lib.hid (HH1.out.below hD)
  have HB3 := Lib.hid (HB2.out.trans (hD.mono HB2.out.size))
  have hxl := Nat.lt_of_lt_of_le hxl hD.size
  have hbl := Nat.lt_of_lt_of_le hbl hD.size
  have HSZ := Lib.hid (show w.heap.size < w1.heap.size from by assumption)
  generalize w1.drew = W at *
  clear hD
  go_wp2_with fail
  go_ret
  exact ⟨rfl, StepP.same HW.out HB3.out⟩

set_option maxRecDepth 100000 in
set_option maxHeartbeats 8000000 in
theorem tstep_casd (A : Nat → Addr) (lo b : Nat) (vB vM : Value) (vs : List Value) (B : Bufs) (M : List Int) (k : Nat) (j : Nat) (va ne : Int) (w : World) (hs : SentAt w A) (h : MdAt tyP w lo b vB vM vs B M) (hM : 0 < M.length) (hk : k < B.length) (hj : j < M.length) (hc : stC B M ⟨4, k, (j : Int), va, ne, true⟩ = 0) :
    Calls Tryd.prog 26 #[.pointer (some ⟨b, 0, none⟩), .agg #[.int .i64 4, .int .i64 (k : Int), .int .i64 (j : Int), .int .u32 va, .int .u32 ne, .bool true]] w fun ev w' => ev = .returned .nilIface ∧ StepP tyP w w' lo b vB vM vs B (M.set j ne) := by
  have HRF := Lib.hid (fun W hs h => refused_c A lo b vB vM vs B M ⟨4, k, (j : Int), va, ne, true⟩ W hs h hM)
  have HE := Lib.hid (show errS (stC B M ⟨4, k, (j : Int), va, ne, true⟩) = .nil by unfold errS; rw [if_pos hc])
  generalize stC B M ⟨4, k, (j : Int), va, ne, true⟩ = c at *
  simp only [Ev.v] at HRF
  have hX := heap_alloc_new w (.cells #[.int .i64 4, .int .i64 (k : Int), .int .i64 (j : Int), .int .u32 va, .int .u32 ne, .bool true] 24)
  have hb0 : Below w.heap.size w (w.alloc (.cells #[.int .i64 4, .int .i64 (k : Int), .int .i64 (j : Int), .int .u32 va, .int .u32 ne, .bool true] 24)) := (Below.refl _ _).alloc (Nat.le_refl _) _
  have HS := Lib.hid (hs.below hb0)
  have HH := Lib.hid (h.below hb0)
  have HW := Lib.hid h
  have HB0 := Lib.hid hb0
  have HX := Lib.hid hX
  have HKK := Lib.hid hk
  clear hX hb0 h hM hs hc hk
  go_enter Tryd.func26, Tryd.ntmps26
  go_wp2_with fail
  refine (HRF.out _ HS.out HH.out).mono ?_
  rintro ev w1 ⟨rfl, hb1⟩
  rw [HE.out, show ErrT.nil.val A = .nilIface from rfl]
  have hX1 := (hb1.block _ (Array.getElem?_eq_some_iff.1 HX.out).1).trans HX.out
  have hb2 := HB0.out.trans (hb1.mono HB0.out.size)
  have HH1 := Lib.hid (HH.out.below hb1)
  have q0 := cell_of hX1 0
  have q1 := cell_of hX1 1
  have q2 := cell_of hX1 2
  have q3 := cell_of hX1 3
  have q4 := cell_of hX1 4
  have q5 := cell_of hX1 5
  simp only [List.getElem?_toArray, List.getElem?_cons_zero, List.getElem?_cons_succ] at q0 q1 q2 q3 q4 q5
  have hxl := (Array.getElem?_eq_some_iff.1 hX1).1
  clear hX1 hb1 HRF HS HH HX
  have hbl := (HH1.out.lt b (.inl rfl)).2
  have c0 := cell_of HH1.out.blk 0
  simp only [List.getElem?_toArray, List.getElem?_cons_zero] at c0
  obtain ⟨gB, oB, kB, sd, cp, hvB, hvk, _, _, _⟩ := HH1.out.buf HKK.out
  rw [hvB] at c0
  have HVB := Lib.hid hvB
  have HVK := Lib.hid hvk
  have HB2 := Lib.hid hb2
  have hkl : (k : Int) < B.length := by have := HKK.out; omega
  clear hvB hvk hb2
  go_wp2_with fail
  refine wp_region_lexA ⟨[], []⟩ (fun x => Below w1.heap.size w1 x) (by kernel_rfl) (by kernel_rfl) (Below.refl _ _).drew ?_
  intro S hto hof hne
  have y0 : ∀ z : Wd S, z.w.cell? ⟨b, 0, none⟩ = some (.slice (some ⟨gB, oB, none⟩) B.length kB) := fun z => ((hto z).cell (p := ⟨b, 0, none⟩) hbl).trans c0
  have y1 : ∀ z : Wd S, z.w.cell? ⟨w.heap.size, 1, none⟩ = some (.int .i64 k) := fun z => ((hto z).cell (p := ⟨w.heap.size, 1, none⟩) hxl).trans q1
  have Hof := Lib.hid hof
  clear hto hof c0
  refine lexW_light 8 (by kernel_rfl) ?_
  simp only [List.take_succ_cons, List.take_zero, List.drop_succ_cons, List.drop_zero]
  repeat (first | go_big_quiet_skip | (go_big_quiet_want; go_big_quiet_op; go_big_quiet_on))
  refine wpQuiet_nil ?_
  refine lexW_done ?_
  clear y0 y1
  have hD : Below w1.heap.size w1 w1.drew := (Below.refl _ _).drew
  have q0 := (hD.cell (p := ⟨w.heap.size, 0, none⟩) hxl).trans q0
  have q1 := (hD.cell (p := ⟨w.heap.size, 1, none⟩) hxl).trans q1
  have q2 := (hD.cell (p := ⟨w.heap.size, 2, none⟩) hxl).trans q2
  have q3 := (hD.cell (p := ⟨w.heap.size, 3, none⟩) hxl).trans q3
  have q4 := (hD.cell (p := ⟨w.heap.size, 4, none⟩) hxl).trans q4
  have q5 := (hD.cell (p := ⟨w.heap.size, 5, none⟩) hxl).trans q5
  have HH2 := Lib.hid (HH1.out.below hD)
  have HB3 := Lib.hid (HB2.out.trans (hD.mono HB2.out.size))
  have hxl := Nat.lt_of_lt_of_le hxl hD.size
  have hbl := Nat.lt_of_lt_of_le hbl hD.size
  have HSZ := Lib.hid (show w.heap.size < w1.heap.size from by assumption)
  generalize w1.drew = W at *
  clear hD
  have HJJ := Lib.hid hj
  clear hj
  obtain ⟨gM, oM, kM, hvM, e3, z3⟩ := HH2.out.mem HJJ.out
  have hgM := (HH2.out.lt gM (.inr (.inr (.inl (by rw [hvM]; rfl))))).2
  have hneM := HH2.out.neMB (g := gM) (by rw [hvM]; rfl)
  have hgw := (HW.out.lt gM (.inr (.inr (.inl (by rw [hvM]; rfl))))).2
  have c1 := cell_of HH2.out.blk 1
  simp only [List.getElem?_toArray, List.getElem?_cons_zero, List.getElem?_cons_succ] at c1
  rw [hvM] at c1
  have hjl : (j : Int) < M.length := by have := HJJ.out; omega
  have HVM := Lib.hid hvM
  generalize M.getD j 0 = m0 at *
  clear hvM
  go_wp2_with fail
  refine wp_region_lexN ⟨[], []⟩ (fun n x => if n = 0 then Below W.heap.size W x else True) (by kernel_rfl) (by kernel_rfl) (by simp only [if_true]; exact (Below.refl _ _).drew) ?_
  intro S hto hof hne
  have hto0 : ∀ z : Wd (upS S 0), Below W.heap.size W z.w := fun z => by
    obtain ⟨m, hm, hx⟩ := hto 0 z
    obtain rfl : m = 0 := by omega
    simpa using hx
  have y1 : ∀ z : Wd (upS S 0), z.w.cell? ⟨b, 1, none⟩ = some (.slice (some ⟨gM, oM, none⟩) M.length kM) := fun z => ((hto0 z).cell (p := ⟨b, 1, none⟩) hbl).trans c1
  have y2 : ∀ z : Wd (upS S 0), z.w.cell? ⟨w.heap.size, 2, none⟩ = some (.int .i64 j) := fun z => ((hto0 z).cell (p := ⟨w.heap.size, 2, none⟩) hxl).trans q2
  have y3 : ∀ z : Wd (upS S 0), z.w.cell? ⟨w.heap.size, 4, none⟩ = some (.int .u32 ne) := fun z => ((hto0 z).cell (p := ⟨w.heap.size, 4, none⟩) hxl).trans q4
  have Hof := Lib.hid hof
  have hne0 := hne 0
  clear hto hof hto0 hne c1
  refine lexM_light 9 0 (by kernel_rfl) (by kernel_rfl) ?_
  simp only [List.take_succ_cons, List.take_zero, List.drop_succ_cons, List.drop_zero]
  repeat (first | go_big_quiet_skip | (go_big_quiet_want; go_big_quiet_op; go_big_quiet_on))
  refine wpQuiet_nil ?_
  refine lexM_heavy (by kernel_rfl) ?_
  go_wp2_with fail
  refine lexMQ_more (Hof.out 1 _ (by simp)) ?_
  refine lexM_done ?_
  clear y1 y2 y3
  go_wp2_with fail
  go_ret
  have h2 := HH2.out.setMem HVM.out HJJ.out ne
  have hF : Mods (mdS b vB vM vs) w (W.setCell ⟨gM, oM + j, none⟩ (.int .u32 ne)).drew := ((Mods.of_below HB3.out).setCell (p := ⟨gM, oM + j, none⟩) (.inr (.inr (.inl (by rw [HVM.out]; rfl)))) _).drew
  exact ⟨rfl, vs, h2.below (Below.refl _ _).drew, hF, fun _ h => .inl h⟩

set_option maxRecDepth 100000 in
set_option maxHeartbeats 8000000 in
theorem tstep_store (A : Nat → Addr) (lo b : Nat) (vB vM : Value) (vs : List Value) (B : Bufs) (M : List Int) (k : Nat) (j : Nat) (va ne : Int) (dn : Bool) (w : World) (hs : SentAt w A) (h : MdAt tyP w lo b vB vM vs B M) (hM : 0 < M.length) (hk : k < B.length) (hlb : (B.getD k []).length ≤ 100000) (hc : stC B M ⟨2, k, (j : Int), va, ne, dn⟩ = 0) :
    Calls Tryd.prog 26 #[.pointer (some ⟨b, 0, none⟩), .agg #[.int .i64 2, .int .i64 (k : Int), .int .i64 (j : Int), .int .u32 va, .int .u32 ne, .bool dn]] w fun ev w' => ev = .returned .nilIface ∧ StepP tyP w w' lo b vB vM vs (B.set k (B.getD k [] ++ [((j : Int), va)])) M := by
  have HRF := Lib.hid (fun W hs h => refused_c A lo b vB vM vs B M ⟨2, k, (j : Int), va, ne, dn⟩ W hs h hM)
  have HE := Lib.hid (show errS (stC B M ⟨2, k, (j : Int), va, ne, dn⟩) = .nil by unfold errS; rw [if_pos hc])
  generalize stC B M ⟨2, k, (j : Int), va, ne, dn⟩ = c at *
  simp only [Ev.v] at HRF
  have hX := heap_alloc_new w (.cells #[.int .i64 2, .int .i64 (k : Int), .int .i64 (j : Int), .int .u32 va, .int .u32 ne, .bool dn] 24)
  have hb0 : Below w.heap.size w (w.alloc (.cells #[.int .i64 2, .int .i64 (k : Int), .int .i64 (j : Int), .int .u32 va, .int .u32 ne, .bool dn] 24)) := (Below.refl _ _).alloc (Nat.le_refl _) _
  have HS := Lib.hid (hs.below hb0)
  have HH := Lib.hid (h.below hb0)
  have HW := Lib.hid h
  have HB0 := Lib.hid hb0
  have HX := Lib.hid hX
  have HKK := Lib.hid hk
  clear hX hb0 h hM hs hc hk
  go_enter Tryd.func26, Tryd.ntmps26
  go_wp2_with fail
  refine (HRF.out _ HS.out HH.out).mono ?_
  rintro ev w1 ⟨rfl, hb1⟩
  rw [HE.out, show ErrT.nil.val A = .nilIface from rfl]
  have hX1 := (hb1.block _ (Array.getElem?_eq_some_iff.1 HX.out).1).trans HX.out
  have hb2 := HB0.out.trans (hb1.mono HB0.out.size)
  have HH1 := Lib.hid (HH.out.below hb1)
  have q0 := cell_of hX1 0
  have q1 := cell_of hX1 1
  have q2 := cell_of hX1 2
  have q3 := cell_of hX1 3
  have q4 := cell_of hX1 4
  have q5 := cell_of hX1 5
  simp only [List.getElem?_toArray, List.getElem?_cons_zero, List.getElem?_cons_succ] at q0 q1 q2 q3 q4 q5
  have hxl := (Array.getElem?_eq_some_iff.1 hX1).1
  clear hX1 hb1 HRF HS HH HX
  have hbl := (HH1.out.lt b (.inl rfl)).2
  have c0 := cell_of HH1.out.blk 0
  simp only [List.getElem?_toArray, List.getElem?_cons_zero] at c0
  obtain ⟨gB, oB, kB, sd, cp, hvB, hvk, _, _, _⟩ := HH1.out.buf HKK.out
  rw [hvB] at c0
  have HVB := Lib.hid hvB
  have HVK := Lib.hid hvk
  have HB2 := Lib.hid hb2
  have hkl : (k : Int) < B.length := by have := HKK.out; omega
  clear hvB hvk hb2
  go_wp2_with fail
  refine wp_region_lexA ⟨[], []⟩ (fun x => Below w1.heap.size w1 x) (by kernel_rfl) (by kernel_rfl) (Below.refl _ _).drew ?_
  intro S hto hof hne
  have y0 : ∀ z : Wd S, z.w.cell? ⟨b, 0, none⟩ = some (.slice (some ⟨gB, oB, none⟩) B.length kB) := fun z => ((hto z).cell (p := ⟨b, 0, none⟩) hbl).trans c0
  have y1 : ∀ z : Wd S, z.w.cell? ⟨w.heap.size, 1, none⟩ = some (.int .i64 k) := fun z => ((hto z).cell (p := ⟨w.heap.size, 1, none⟩) hxl).trans q1
  have Hof := Lib.hid hof
  clear hto hof c0
  refine lexW_light 8 (by kernel_rfl) ?_
  simp only [List.take_succ_cons, List.take_zero, List.drop_succ_cons, List.drop_zero]
  repeat (first | go_big_quiet_skip | (go_big_quiet_want; go_big_quiet_op; go_big_quiet_on))
  refine wpQuiet_nil ?_
  refine lexW_done ?_
  clear y0 y1
  have hD : Below w1.heap.size w1 w1.drew := (Below.refl _ _).drew
  have q0 := (hD.cell (p := ⟨w.heap.size, 0, none⟩) hxl).trans q0
  have q1 := (hD.cell (p := ⟨w.heap.size, 1, none⟩) hxl).trans q1
  have q2 := (hD.cell (p := ⟨w.heap.size, 2, none⟩) hxl).trans q2
  have q3 := (hD.cell (p := ⟨w.heap.size, 3, none⟩) hxl).trans q3
  have q4 := (hD.cell (p := ⟨w.heap.size, 4, none⟩) hxl).trans q4
  have q5 := (hD.cell (p := ⟨w.heap.size, 5, none⟩) hxl).trans q5
  have HH2 := Lib.hid (HH1.out.below hD)
  have HB3 := Lib.hid (HB2.out.trans (hD.mono HB2.out.size))
  have hxl := Nat.lt_of_lt_of_le hxl hD.size
  have hbl := Nat.lt_of_lt_of_le hbl hD.size
  have HSZ := Lib.hid (show w.heap.size < w1.heap.size from by assumption)
  generalize w1.drew = W at *
  clear hD
  obtain ⟨i0, hi0, hi1⟩ := Option.map_eq_some_iff.1 nInfoWP
  simp only [Prod.mk.injEq] at hi1
  obtain ⟨hz0, hz1, hz2⟩ := hi1
  have HI := Lib.hid hi0
  have HZ0 := Lib.hid hz0
  have HZ1 := Lib.hid hz1
  have HZ2 := Lib.hid hz2
  have HLB := Lib.hid hlb
  clear hi0 hz0 hz1 hz2 hlb
  obtain ⟨gB', oB', kB', sd', cp', hvB', hvk', e0, z0, hrow⟩ := HH2.out.buf HKK.out
  rw [HVB.out] at hvB'
  simp only [Value.slice.injEq, Option.some.injEq, Addr.mk.injEq] at hvB'
  obtain ⟨⟨rfl, rfl, _⟩, _, rfl⟩ := hvB'
  rw [HVK.out] at hvk'
  simp only [Option.some.injEq, Value.slice.injEq] at hvk'
  obtain ⟨rfl, _, rfl⟩ := hvk'
  have HROW := Lib.hid hrow
  have hgB := (HH2.out.lt gB (.inr (.inl (by rw [HVB.out]; rfl)))).2
  have hnB := HH2.out.neBB (g := gB) (by rw [HVB.out]; rfl)
  have hgBw := (HW.out.lt gB (.inr (.inl (by rw [HVB.out]; rfl)))).2
  have HNB := Lib.hid hnB
  have HVKB := Lib.hid (show ∀ g, (Value.slice sd (B.getD k []).length cp).ownBlock = some g → g < w.heap.size ∧ g ≠ gB ∧ g ≠ b from fun g hg => ⟨(HW.out.lt g (.inr (.inr (.inr ⟨k, _, HVK.out, hg⟩)))).2, fun e => hnB.2.2 k _ HVK.out (e ▸ hg), HH2.out.neVB HVK.out hg⟩)
  obtain ⟨L, hL⟩ : ∃ L, B.getD k [] = L := ⟨_, rfl⟩
  have HL := Lib.hid hL
  rw [hL] at e0 HROW HVK HLB HVKB
  clear hrow hnB hL

  go_wp2_with fail
  refine wp_region_lexN ⟨[], []⟩ (fun n x => if n ≤ 1 then Below W.heap.size W x else True) (by kernel_rfl) (by kernel_rfl) (by simp only [Nat.zero_le, if_true]; exact (Below.refl _ _).drew) ?_
  intro S hto hof hne
  have hto1 : ∀ z : Wd (upS S 1), Below W.heap.size W z.w := fun z => by
    obtain ⟨m, hm, hx⟩ := hto 1 z
    rw [if_pos hm] at hx
    exact hx
  have y1 : ∀ z : Wd (upS S 1), z.w.cell? ⟨gB, oB + k, none⟩ = some (.slice sd L.length cp) := fun z => ((hto1 z).cell (p := ⟨gB, oB + k, none⟩) hgB).trans e0
  have y2 : ∀ z : Wd (upS S 1), z.w.cell? ⟨w.heap.size, 2, none⟩ = some (.int .i64 j) := fun z => ((hto1 z).cell (p := ⟨w.heap.size, 2, none⟩) hxl).trans q2
  have y3 : ∀ z : Wd (upS S 1), z.w.cell? ⟨w.heap.size, 3, none⟩ = some (.int .u32 va) := fun z => ((hto1 z).cell (p := ⟨w.heap.size, 3, none⟩) hxl).trans q3
  have Hof := Lib.hid hof
  have hne0 := hne 1
  have hne2 := hne 2
  have E0 := Lib.hid e0
  clear hto hof hto1 hne e0
  refine lexM_light 1 2 (by kernel_rfl) (by kernel_rfl) ?_
  simp only [List.take_succ_cons, List.take_zero, List.drop_succ_cons, List.drop_zero]
  repeat (first | go_big_quiet_skip | (go_big_quiet_want; go_big_quiet_op; go_big_quiet_on))
  refine wpQuiet_nil ?_
  refine lexM_light 8 1 (by kernel_rfl) (by kernel_rfl) ?_
  simp only [List.take_succ_cons, List.take_zero, List.drop_succ_cons, List.drop_zero]
  repeat (first | go_big_quiet_skip | (go_big_quiet_want; go_big_quiet_op; go_big_quiet_on))
  refine wpQuiet_nil ?_
  refine lexM_heavy (by kernel_rfl) ?_
  go_wp2_with fail
  have hba : Below W.heap.size W (W.drew.alloc (.cells #[.int .i64 j, .int .u32 va] 94)) := (Below.refl _ _).drew.alloc (Nat.le_refl _) _
  refine lexMQ_more (Hof.out 1 _ (by simp only [Nat.le_refl, if_true]; exact hba)) ?_
  have HBA := Lib.hid hba
  clear hba
  refine lexM_heavy (by kernel_rfl) ?_
  go_wp2_with (at_builtin; refine wpList_append_win _ rfl _ _ 92 rfl lo 94 i0 (.agg #[.int .i64 0, .int .u32 0]) 2 16 Tryd.underlying92 HI.out HZ0.out HZ1.out HZ2.out rfl (by decide) _ _ _ rfl (HROW.out.below HBA.out) ⟨W.heap.size, 0, none⟩ 1 1 (flatW [((j : Int), va)]) rfl rfl (by exact cells_new W.drew [_, _] _) (flatW_one _) (by omega) (by have := HLB.out; unfold maxLen; omega) (by have := HLB.out; omega) (by have := (HW.out.lt b (.inl rfl)); have := HB3.out.size; simp; omega) ?_; intro g off cap3 w3 hrow3 hgrow3 hat3 hlt3)
  refine lexMQ_more (Hof.out 2 _ (by simp)) ?_
  have HR3 := Lib.hid hrow3
  have HG3 := Lib.hid hgrow3
  have HA3 := Lib.hid hat3
  have hblk : w3.heap[gB]? = W.heap[gB]? := (hgrow3.block gB (by simp; omega) (fun e => (HVKB.out gB e.symm).2.1 rfl)).trans (HBA.out.block gB hgB)
  have g1 := (World.cell?_of_block (a := ⟨gB, oB + k, none⟩) hblk).trans E0.out
  have g2 := (World.frozen?_of_block (a := ⟨gB, oB + k, none⟩) hblk).trans z0
  clear hrow3 hgrow3 hat3 y1 y2 y3
  refine lexM_light 1 2 (by kernel_rfl) (by kernel_rfl) ?_
  simp only [List.take_succ_cons, List.take_zero, List.drop_succ_cons, List.drop_zero]
  repeat (first | go_big_quiet_skip | (go_big_quiet_want; go_big_quiet_op; go_big_quiet_on))
  refine wpQuiet_nil ?_
  refine lexM_heavy (by kernel_rfl) ?_
  go_wp2_with fail
  refine lexMQ_more (Hof.out 3 _ (by simp)) ?_
  refine lexM_done ?_
  clear g1 g2
  go_wp2_with fail
  go_ret
  have hm : Mods (fun g => (Value.slice sd L.length cp).ownBlock = some g) W w3 := (Mods.of_below HBA.out).trans (Mods.grown HG3.out (S := fun g => (Value.slice sd L.length cp).ownBlock = some g) fun k hk => hk) fun _ _ h => h
  have hrw : winRow w3 lo tyP.tW 2 (.slice (some ⟨g, off, none⟩) (L.length + 1) cap3) (L ++ [((j : Int), va)]).length (flatW (L ++ [((j : Int), va)])) := by
    rw [flatW_append, List.length_append]
    exact HR3.out
  have hown : ∀ q, (Value.slice (some ⟨g, off, none⟩) (L.length + 1) cap3).ownBlock = some q → (Value.slice sd L.length cp).ownBlock = some q ∨ W.heap.size ≤ q := by
    intro q hq
    simp only [Value.ownBlock, Option.some.injEq] at hq
    subst hq
    rcases HA3.out with h | h
    · exact .inl h
    · right
      rw [h]
      simp
  rw [HL.out]
  have h2 := HH2.out.setBuf HVB.out HKK.out HVK.out hm hrw hown
  refine ⟨rfl, _, h2, ?_, mdS_set HVK.out fun q hq => (hown q hq).imp id fun hh => Nat.le_trans HB3.out.size hh⟩
  refine Mods.setCell ((Mods.of_below HB3.out).trans hm fun q _ hq => ?_) (p := ⟨gB, oB + k, none⟩) (.inr (.inl (by rw [HVB.out]; rfl))) _
  exact .inr (.inr (.inr ⟨k, _, HVK.out, hq⟩))

set_option maxRecDepth 100000 in
set_option maxHeartbeats 8000000 in
theorem tstep_commit (A : Nat → Addr) (lo b : Nat) (vB vM : Value) (vs : List Value) (B : Bufs) (M : List Int) (k : Nat) (j : Nat) (va ne : Int) (dn : Bool) (w : World) (hs : SentAt w A) (h : MdAt tyP w lo b vB vM vs B M) (hM : 0 < M.length) (hk : k < B.length) (L : List (Int × Int)) (hL0 : B.getD k [] = ((j : Int), va) :: L) (hj : j < M.length) (hlb : (B.getD k []).length ≤ 100000) (hc : stC B M ⟨3, k, (j : Int), va, ne, dn⟩ = 0) :
    Calls Tryd.prog 26 #[.pointer (some ⟨b, 0, none⟩), .agg #[.int .i64 3, .int .i64 (k : Int), .int .i64 (j : Int), .int .u32 va, .int .u32 ne, .bool dn]] w fun ev w' => ev = .returned .nilIface ∧ StepP tyP w w' lo b vB vM vs (B.set k L) (M.set j va) := by
  have HRF := Lib.hid (fun W hs h => refused_c A lo b vB vM vs B M ⟨3, k, (j : Int), va, ne, dn⟩ W hs h hM)
  have HE := Lib.hid (show errS (stC B M ⟨3, k, (j : Int), va, ne, dn⟩) = .nil by unfold errS; rw [if_pos hc])
  generalize stC B M ⟨3, k, (j : Int), va, ne, dn⟩ = c at *
  simp only [Ev.v] at HRF
  have hX := heap_alloc_new w (.cells #[.int .i64 3, .int .i64 (k : Int), .int .i64 (j : Int), .int .u32 va, .int .u32 ne, .bool dn] 24)
  have hb0 : Below w.heap.size w (w.alloc (.cells #[.int .i64 3, .int .i64 (k : Int), .int .i64 (j : Int), .int .u32 va, .int .u32 ne, .bool dn] 24)) := (Below.refl _ _).alloc (Nat.le_refl _) _
  have HS := Lib.hid (hs.below hb0)
  have HH := Lib.hid (h.below hb0)
  have HW := Lib.hid h
  have HB0 := Lib.hid hb0
  have HX := Lib.hid hX
  have HKK := Lib.hid hk
  clear hX hb0 h hM hs hc hk
  go_enter Tryd.func26, Tryd.ntmps26
  go_wp2_with fail
  refine (HRF.out _ HS.out HH.out).mono ?_
  rintro ev w1 ⟨rfl, hb1⟩
  rw [HE.out, show ErrT.nil.val A = .nilIface from rfl]
  have hX1 := (hb1.block _ (Array.getElem?_eq_some_iff.1 HX.out).1).trans HX.out
  have hb2 := HB0.out.trans (hb1.mono HB0.out.size)
  have HH1 := Lib.hid (HH.out.below hb1)
  have q0 := cell_of hX1 0
  have q1 := cell_of hX1 1
  have q2 := cell_of hX1 2
  have q3 := cell_of hX1 3
  have q4 := cell_of hX1 4
  have q5 := cell_of hX1 5
  simp only [List.getElem?_toArray, List.getElem?_cons_zero, List.getElem?_cons_succ] at q0 q1 q2 q3 q4 q5
  have hxl := (Array.getElem?_eq_some_iff.1 hX1).1
  clear hX1 hb1 HRF HS HH HX
  have hbl := (HH1.out.lt b (.inl rfl)).2
  have c0 := cell_of HH1.out.blk 0
  simp only [List.getElem?_toArray, List.getElem?_cons_zero] at c0
  obtain ⟨gB, oB, kB, sd, cp, hvB, hvk, _, _, _⟩ := HH1.out.buf HKK.out
  rw [hvB] at c0
  have HVB := Lib.hid hvB
  have HVK := Lib.hid hvk
  have HB2 := Lib.hid hb2
  have hkl : (k : Int) < B.length := by have := HKK.out; omega
  clear hvB hvk hb2
  go_wp2_with fail
  refine wp_region_lexA ⟨[], []⟩ (fun x => Below w1.heap.size w1 x) (by kernel_rfl) (by kernel_rfl) (Below.refl _ _).drew ?_
  intro S hto hof hne
  have y0 : ∀ z : Wd S, z.w.cell? ⟨b, 0, none⟩ = some (.slice (some ⟨gB, oB, none⟩) B.length kB) := fun z => ((hto z).cell (p := ⟨b, 0, none⟩) hbl).trans c0
  have y1 : ∀ z : Wd S, z.w.cell? ⟨w.heap.size, 1, none⟩ = some (.int .i64 k) := fun z => ((hto z).cell (p := ⟨w.heap.size, 1, none⟩) hxl).trans q1
  have Hof := Lib.hid hof
  clear hto hof c0
  refine lexW_light 8 (by kernel_rfl) ?_
  simp only [List.take_succ_cons, List.take_zero, List.drop_succ_cons, List.drop_zero]
  repeat (first | go_big_quiet_skip | (go_big_quiet_want; go_big_quiet_op; go_big_quiet_on))
  refine wpQuiet_nil ?_
  refine lexW_done ?_
  clear y0 y1
  have hD : Below w1.heap.size w1 w1.drew := (Below.refl _ _).drew
  have q0 := (hD.cell (p := ⟨w.heap.size, 0, none⟩) hxl).trans q0
  have q1 := (hD.cell (p := ⟨w.heap.size, 1, none⟩) hxl).trans q1
  have q2 := (hD.cell (p := ⟨w.heap.size, 2, none⟩) hxl).trans q2
  have q3 := (hD.cell (p := ⟨w.heap.size, 3, none⟩) hxl).trans q3
  have q4 := (hD.cell (p := ⟨w.heap.size, 4, none⟩) hxl).trans q4
  have q5 := (hD.cell (p := ⟨w.heap.size, 5, none⟩) hxl).trans q5
  have HH2 := Lib.hid (HH1.out.below hD)
  have HB3 := Lib.hid (HB2.out.trans (hD.mono HB2.out.size))
  have hxl := Nat.lt_of_lt_of_le hxl hD.size
  have hbl := Nat.lt_of_lt_of_le hbl hD.size
  have HSZ := Lib.hid (show w.heap.size < w1.heap.size from by assumption)
  generalize w1.drew = W at *
  clear hD
  have HJJ := Lib.hid hj
  have HL0 := Lib.hid hL0
  have HLB := Lib.hid hlb
  clear hlb hj hL0
  obtain ⟨gB', oB', kB', sd', cp', hvB', hvk', e0, z0, hrow⟩ := HH2.out.buf HKK.out
  rw [HVB.out] at hvB'
  simp only [Value.slice.injEq, Option.some.injEq, Addr.mk.injEq] at hvB'
  obtain ⟨⟨rfl, rfl, _⟩, _, rfl⟩ := hvB'
  rw [HVK.out] at hvk'
  simp only [Option.some.injEq, Value.slice.injEq] at hvk'
  obtain ⟨rfl, _, rfl⟩ := hvk'
  have HROW := Lib.hid hrow
  have hgB := (HH2.out.lt gB (.inr (.inl (by rw [HVB.out]; rfl)))).2
  have hnB := HH2.out.neBB (g := gB) (by rw [HVB.out]; rfl)
  have hgBw := (HW.out.lt gB (.inr (.inl (by rw [HVB.out]; rfl)))).2
  have HNB := Lib.hid hnB
  have HVKB := Lib.hid (show ∀ g, (Value.slice sd (B.getD k []).length cp).ownBlock = some g → g < w.heap.size ∧ g ≠ gB ∧ g ≠ b from fun g hg => ⟨(HW.out.lt g (.inr (.inr (.inr ⟨k, _, HVK.out, hg⟩)))).2, fun e => hnB.2.2 k _ HVK.out (e ▸ hg), HH2.out.neVB HVK.out hg⟩)
  rw [HL0.out] at e0 HROW HVK HLB HVKB hrow
  simp only [List.length_cons] at e0 HROW HVK HLB HVKB hrow
  clear hnB

  obtain ⟨gw, ow, cw, he, hcap, _, hgw, hcc⟩ := hrow.form (by omega)
  simp only [Value.slice.injEq] at he
  obtain ⟨rfl, _, rfl⟩ := he
  have HCC := Lib.hid hcc
  have HGW := Lib.hid hgw
  have hlb := HLB.out
  clear hcc hrow hgw
  have hslc : ∀ ad2, (0 < L.length → ad2 = ⟨gw, ow + 2, none⟩) → slc W 2 (.slice (some ad2) L.length (cp - 1)) L.length (flatW L) := fun ad2 h2 =>
    ⟨flatW_length _, some ad2, cp - 1, rfl, fun hp => ⟨gw, ow + 2, by rw [h2 hp], HGW.out, fun j' u hj' => by
      rw [Nat.add_assoc]
      exact HCC.out (2 + j') u (by rw [Nat.add_comm]; exact hj')⟩⟩
  have HSL := Lib.hid hslc
  have E0 := Lib.hid e0
  have Z0 := Lib.hid z0
  have fin : ∀ (W5 : World) (u : Value), winRow W5 W.heap.size 94 2 u L.length (flatW L) → Below W.heap.size W W5 → MdAt tyP (W5.setCell ⟨gB, oB + k, none⟩ u) lo b vB vM (vs.set k u) (B.set k L) M := by
    intro W5 u hu hb5
    refine HH2.out.setBuf HVB.out HKK.out HVK.out (Mods.of_below hb5) (hu.base_le fun q hq => ?_) fun q hq => .inr (hu.lt q hq).1
    have h1 := (hu.lt q hq).1
    have h2 := (HW.out.lt b (.inl rfl)).1
    have h3 := HB3.out.size
    have h4 := (HW.out.lt b (.inl rfl)).2
    omega
  have HFIN := Lib.hid fin
  clear hslc fin e0 z0
  have hgBs : gB < w.heap.size := hgBw
  by_cases hcap1 : cp = 1
  · subst hcap1
    have hL00 : L.length = 0 := by omega
    have HSL2 := Lib.hid (show slc W 2 (.slice (some ⟨gw, ow, none⟩) 0 0) L.length (flatW L) by
      have := HSL.out ⟨gw, ow, none⟩ (fun h => by omega)
      rwa [hL00] at this ⊢)
    rw [hL00] at E0
    have e0 := E0.out
    clear hL00 hcap
    go_wp2_with fail
    refine (cloneW_c _ L W HSL2.out (by omega)).mono ?_
    rintro ev w5 ⟨u, rfl, hu, hb5⟩
    have k1 := (hb5.cell (p := ⟨gB, oB + k, none⟩) hgB).trans E0.out
    have k2 := (hb5.frozen (p := ⟨gB, oB + k, none⟩) hgB).trans Z0.out
    have q2 := (hb5.cell (p := ⟨w.heap.size, 2, none⟩) hxl).trans q2
    have q3 := (hb5.cell (p := ⟨w.heap.size, 3, none⟩) hxl).trans q3
    have q0 := (hb5.cell (p := ⟨w.heap.size, 0, none⟩) hxl).trans q0
    have HU := Lib.hid hu
    have HB5 := Lib.hid hb5
    have h5 := HFIN.out w5 u hu hb5
    have HH5 := Lib.hid h5
    obtain ⟨gM, oM, kM, hvM, e3, z3⟩ := h5.mem HJJ.out
    have hgM := (h5.lt gM (.inr (.inr (.inl (by rw [hvM]; rfl))))).2
    have hneM := h5.neMB (g := gM) (by rw [hvM]; rfl)
    have c1 := cell_of h5.blk 1
    simp only [List.getElem?_toArray, List.getElem?_cons_zero, List.getElem?_cons_succ] at c1
    rw [hvM] at c1
    have hjl : (j : Int) < M.length := by have := HJJ.out; omega
    have HVM := Lib.hid hvM
    generalize M.getD j 0 = m0 at *
    obtain ⟨ad5, cap5, hu5⟩ := hu.len
    have HU5 := Lib.hid hu5
    clear hvM hu hb5 h5 hu5
    subst u
    go_wp2_with fail
    have hM6 : Mods (fun g => g = gB) w5 (w5.setCell ⟨gB, oB + k, none⟩ (.slice ad5 L.length cap5)) := (Mods.refl (fun g => g = gB) w5).setCell (p := ⟨gB, oB + k, none⟩) (show gB = gB from rfl) _
    have hxl5 := Nat.lt_of_lt_of_le hxl HB5.out.size
    have q2 := (hM6.cell (p := ⟨w.heap.size, 2, none⟩) hxl5 (fun e => by simp only at e; omega)).trans q2
    have q3 := (hM6.cell (p := ⟨w.heap.size, 3, none⟩) hxl5 (fun e => by simp only at e; omega)).trans q3
    have hxl6 := Nat.lt_of_lt_of_le hxl5 hM6.size
    have hbl6 := (HH5.out.lt b (.inl rfl)).2
    have HM6 := Lib.hid hM6
    clear hM6 q0 k1 k2
    generalize w5.setCell ⟨gB, oB + k, none⟩ (.slice ad5 L.length cap5) = W6 at *
    refine wp_region_lexN ⟨[], []⟩ (fun n x => if n = 0 then Below W6.heap.size W6 x else True) (by kernel_rfl) (by kernel_rfl) (by simp only [if_true]; exact (Below.refl _ _).drew) ?_
    intro S hto hof hne
    have hto0 : ∀ z : Wd (upS S 0), Below W6.heap.size W6 z.w := fun z => by
      obtain ⟨m, hm, hx⟩ := hto 0 z
      obtain rfl : m = 0 := by omega
      simpa using hx
    have y1 : ∀ z : Wd (upS S 0), z.w.cell? ⟨b, 1, none⟩ = some (.slice (some ⟨gM, oM, none⟩) M.length kM) := fun z => ((hto0 z).cell (p := ⟨b, 1, none⟩) hbl6).trans c1
    have y2 : ∀ z : Wd (upS S 0), z.w.cell? ⟨w.heap.size, 2, none⟩ = some (.int .i64 j) := fun z => ((hto0 z).cell (p := ⟨w.heap.size, 2, none⟩) hxl6).trans q2
    have y3 : ∀ z : Wd (upS S 0), z.w.cell? ⟨w.heap.size, 3, none⟩ = some (.int .u32 va) := fun z => ((hto0 z).cell (p := ⟨w.heap.size, 3, none⟩) hxl6).trans q3
    have Hof := Lib.hid hof
    have hne0 := hne 0
    clear hto hof hto0 hne c1
    refine lexM_light 9 0 (by kernel_rfl) (by kernel_rfl) ?_
    simp only [List.take_succ_cons, List.take_zero, List.drop_succ_cons, List.drop_zero]
    repeat (first | go_big_quiet_skip | (go_big_quiet_want; go_big_quiet_op; go_big_quiet_on))
    refine wpQuiet_nil ?_
    refine lexM_heavy (by kernel_rfl) ?_
    go_wp2_with fail
    refine lexMQ_more (Hof.out 1 _ (by simp)) ?_
    refine lexM_done ?_
    clear y1 y2 y3
    go_wp2_with fail
    go_ret
    have h2 := HH5.out.setMem HVM.out HJJ.out va
    refine ⟨rfl, _, h2.below (Below.refl _ _).drew, ?_, mdS_set HVK.out fun q hq => .inr (Nat.le_trans HB3.out.size (HU.out.lt q hq).1)⟩
    refine (Mods.setCell ((Mods.of_below (HB3.out.trans (HB5.out.mono HB3.out.size))).trans HM6.out fun q _ hq => ?_) (p := ⟨gM, oM + j, none⟩) (.inr (.inr (.inl (by rw [HVM.out]; rfl)))) _).drew
    exact .inr (.inl (by rw [hq, HVB.out]; rfl))
  · have hcc1 : ¬ cp = 1 := hcap1
    have e0 := E0.out
    clear hcap1
    go_wp2_with fail
    refine (cloneW_c _ L W (HSL.out ⟨gw, ow + 2, none⟩ (fun _ => rfl)) (by omega)).mono ?_
    rintro ev w5 ⟨u, rfl, hu, hb5⟩
    have k1 := (hb5.cell (p := ⟨gB, oB + k, none⟩) hgB).trans E0.out
    have k2 := (hb5.frozen (p := ⟨gB, oB + k, none⟩) hgB).trans Z0.out
    have q2 := (hb5.cell (p := ⟨w.heap.size, 2, none⟩) hxl).trans q2
    have q3 := (hb5.cell (p := ⟨w.heap.size, 3, none⟩) hxl).trans q3
    have q0 := (hb5.cell (p := ⟨w.heap.size, 0, none⟩) hxl).trans q0
    have HU := Lib.hid hu
    have HB5 := Lib.hid hb5
    have h5 := HFIN.out w5 u hu hb5
    have HH5 := Lib.hid h5
    obtain ⟨gM, oM, kM, hvM, e3, z3⟩ := h5.mem HJJ.out
    have hgM := (h5.lt gM (.inr (.inr (.inl (by rw [hvM]; rfl))))).2
    have hneM := h5.neMB (g := gM) (by rw [hvM]; rfl)
    have c1 := cell_of h5.blk 1
    simp only [List.getElem?_toArray, List.getElem?_cons_zero, List.getElem?_cons_succ] at c1
    rw [hvM] at c1
    have hjl : (j : Int) < M.length := by have := HJJ.out; omega
    have HVM := Lib.hid hvM
    generalize M.getD j 0 = m0 at *
    obtain ⟨ad5, cap5, hu5⟩ := hu.len
    have HU5 := Lib.hid hu5
    clear hvM hu hb5 h5 hu5
    subst u
    go_wp2_with fail
    have hM6 : Mods (fun g => g = gB) w5 (w5.setCell ⟨gB, oB + k, none⟩ (.slice ad5 L.length cap5)) := (Mods.refl (fun g => g = gB) w5).setCell (p := ⟨gB, oB + k, none⟩) (show gB = gB from rfl) _
    have hxl5 := Nat.lt_of_lt_of_le hxl HB5.out.size
    have q2 := (hM6.cell (p := ⟨w.heap.size, 2, none⟩) hxl5 (fun e => by simp only at e; omega)).trans q2
    have q3 := (hM6.cell (p := ⟨w.heap.size, 3, none⟩) hxl5 (fun e => by simp only at e; omega)).trans q3
    have hxl6 := Nat.lt_of_lt_of_le hxl5 hM6.size
    have hbl6 := (HH5.out.lt b (.inl rfl)).2
    have HM6 := Lib.hid hM6
    clear hM6 q0 k1 k2
    generalize w5.setCell ⟨gB, oB + k, none⟩ (.slice ad5 L.length cap5) = W6 at *
    refine wp_region_lexN ⟨[], []⟩ (fun n x => if n = 0 then Below W6.heap.size W6 x else True) (by kernel_rfl) (by kernel_rfl) (by simp only [if_true]; exact (Below.refl _ _).drew) ?_
    intro S hto hof hne
    have hto0 : ∀ z : Wd (upS S 0), Below W6.heap.size W6 z.w := fun z => by
      obtain ⟨m, hm, hx⟩ := hto 0 z
      obtain rfl : m = 0 := by omega
      simpa using hx
    have y1 : ∀ z : Wd (upS S 0), z.w.cell? ⟨b, 1, none⟩ = some (.slice (some ⟨gM, oM, none⟩) M.length kM) := fun z => ((hto0 z).cell (p := ⟨b, 1, none⟩) hbl6).trans c1
    have y2 : ∀ z : Wd (upS S 0), z.w.cell? ⟨w.heap.size, 2, none⟩ = some (.int .i64 j) := fun z => ((hto0 z).cell (p := ⟨w.heap.size, 2, none⟩) hxl6).trans q2
    have y3 : ∀ z : Wd (upS S 0), z.w.cell? ⟨w.heap.size, 3, none⟩ = some (.int .u32 va) := fun z => ((hto0 z).cell (p := ⟨w.heap.size, 3, none⟩) hxl6).trans q3
    have Hof := Lib.hid hof
    have hne0 := hne 0
    clear hto hof hto0 hne c1
    refine lexM_light 9 0 (by kernel_rfl) (by kernel_rfl) ?_
    simp only [List.take_succ_cons, List.take_zero, List.drop_succ_cons, List.drop_zero]
    repeat (first | go_big_quiet_skip | (go_big_quiet_want; go_big_quiet_op; go_big_quiet_on))
    refine wpQuiet_nil ?_
    refine lexM_heavy (by kernel_rfl) ?_
    go_wp2_with fail
    refine lexMQ_more (Hof.out 1 _ (by simp)) ?_
    refine lexM_done ?_
    clear y1 y2 y3
    go_wp2_with fail
    go_ret
    have h2 := HH5.out.setMem HVM.out HJJ.out va
    refine ⟨rfl, _, h2.below (Below.refl _ _).drew, ?_, mdS_set HVK.out fun q hq => .inr (Nat.le_trans HB3.out.size (HU.out.lt q hq).1)⟩
    refine (Mods.setCell ((Mods.of_below (HB3.out.trans (HB5.out.mono HB3.out.size))).trans HM6.out fun q _ hq => ?_) (p := ⟨gM, oM + j, none⟩) (.inr (.inr (.inl (by rw [HVM.out]; rfl)))) _).drew
    exact .inr (.inl (by rw [hq, HVB.out]; rfl))

end Go.Proofs.YtamklohnmbgklaaDoor
