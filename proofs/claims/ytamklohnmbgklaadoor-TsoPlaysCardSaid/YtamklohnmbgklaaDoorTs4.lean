/- The memory model: why an event is refused (the program's). -/
import Derived.Test.YtamklohnmbgklaaDoorTs3
namespace Go.Proofs.YtamklohnmbgklaaDoor
open Go.RowKit Go.Extern.Stop Go.Stop Go.Extern

/-- The sentinel of a code. -/
def errS (c : Nat) : ErrT := if c = 0 then .nil else .sent (c - 1)

set_option maxRecDepth 100000 in
set_option maxHeartbeats 4000000 in
theorem refused_arg (A : Nat → Addr) (lo b : Nat) (vB vM : Value) (vs : List Value) (B : Bufs) (M : List Int) (e : Ev) (w : World) (hs : SentAt w A) (h : MdAt tyP w lo b vB vM vs B M) (hM : 0 < M.length)
    (hbad : ¬ (1 ≤ e.kind ∧ e.kind ≤ 5) ∨ ¬ okC B e.core ∨ (e.kind ≠ 5 ∧ ¬ okA M e.addr)) :
    Calls Tryd.prog 37 #[.pointer (some ⟨b, 0, none⟩), e.v] w fun ev w' => ev = .returned ((ErrT.sent 0).val A) ∧ Below w.heap.size w w' := by
  obtain ⟨kd, co, ad, va, ne, dn⟩ := e
  simp only [Ev.v] at hbad ⊢
  have hX := heap_alloc_new w (.cells #[.int .i64 kd, .int .i64 co, .int .i64 ad, .int .u32 va, .int .u32 ne, .bool dn] 24)
  have hb0 : Below w.heap.size w (w.alloc (.cells #[.int .i64 kd, .int .i64 co, .int .i64 ad, .int .u32 va, .int .u32 ne, .bool dn] 24)) := (Below.refl _ _).alloc (Nat.le_refl _) _
  have hg := (hs.below hb0).glob 0 (by omega)
  simp only [gnum] at hg
  have HH := Lib.hid (h.below hb0)
  have HB0 := Lib.hid hb0
  have HA0 := Lib.hid (show okA M 0 from ⟨by omega, by omega⟩)
  have HBAD := Lib.hid hbad
  clear hX hb0 h hM hbad
  by_cases k1 : kd < 1
  · have g1 : decide (kd < 1) = true := by simpa using k1
    have g5 : (kd == 5) = false := by simp; omega
    clear k1
    go_enter Tryd.func37, Tryd.ntmps37
    go_wp2_with fail
    go_ret
    exact ⟨rfl, HB0.out⟩
  · have g1 : decide (kd < 1) = false := by simpa using k1
    by_cases k2 : kd > 5
    · have g2 : decide (kd > 5) = true := by simpa using k2
      have g5 : (kd == 5) = false := by simp; omega
      clear k1 k2
      go_enter Tryd.func37, Tryd.ntmps37
      go_wp2_with fail
      go_ret
      exact ⟨rfl, HB0.out⟩
    · have g2 : decide (kd > 5) = false := by simpa using k2
      by_cases k5 : kd = 5
      · subst k5
        have hk := Lib.hid (show ¬ (okC B co ∧ okA M 0) from fun hh => by
          rcases HBAD.out with h1 | h1 | h1
          · omega
          · exact h1 hh.1
          · exact h1.1 rfl)
        clear k1 k2 g1 g2
        go_enter Tryd.func37, Tryd.ntmps37
        go_wp2_with fail
        refine (known_c lo b vB vM vs B M co 0 _ HH.out).mono ?_
        rintro ev w' ⟨rfl, hww⟩
        obtain rfl := hww
        rw [decide_eq_false hk.out]
        go_wp2_with fail
        go_ret
        exact ⟨rfl, HB0.out⟩
      · have g5 : (kd == 5) = false := by simpa using k5
        have hk := Lib.hid (show ¬ (okC B co ∧ okA M ad) from fun hh => by
          rcases HBAD.out with h1 | h1 | h1
          · omega
          · exact h1 hh.1
          · exact h1.2 hh.2)
        clear k1 k2 k5
        go_enter Tryd.func37, Tryd.ntmps37
        go_wp2_with fail
        refine (known_c lo b vB vM vs B M co ad _ HH.out).mono ?_
        rintro ev w' ⟨rfl, hww⟩
        obtain rfl := hww
        rw [decide_eq_false hk.out]
        go_wp2_with fail
        go_ret
        exact ⟨rfl, HB0.out⟩

set_option maxRecDepth 100000 in
set_option maxHeartbeats 4000000 in
theorem refused_load_ok (A : Nat → Addr) (lo b : Nat) (vB vM : Value) (vs : List Value) (B : Bufs) (M : List Int) (k j : Nat) (L : List (Int × Int)) (va ne : Int) (dn : Bool) (w : World) (hs : SentAt w A) (h : MdAt tyP w lo b vB vM vs B M) (hk : k < B.length) (hj : j < M.length)
    (hL : B.getD k [] = L) (hr : rdS B M k j = va) :
    Calls Tryd.prog 37 #[.pointer (some ⟨b, 0, none⟩), .agg #[.int .i64 1, .int .i64 (k : Int), .int .i64 (j : Int), .int .u32 va, .int .u32 ne, .bool dn]] w fun ev w' => ev = .returned (ErrT.nil.val A) ∧ Below w.heap.size w w' := by
  have hb0 : Below w.heap.size w (w.alloc (.cells #[.int .i64 1, .int .i64 (k : Int), .int .i64 (j : Int), .int .u32 va, .int .u32 ne, .bool dn] 24)) := (Below.refl _ _).alloc (Nat.le_refl _) _
  have HS := Lib.hid (hs.below hb0)
  have HH := Lib.hid (h.below hb0)
  have HB0 := Lib.hid hb0
  have HK := Lib.hid (show okC B k ∧ okA M (j : Int) from ⟨⟨by omega, by omega⟩, ⟨by omega, by omega⟩⟩)
  have HKK := Lib.hid hk
  have HJJ := Lib.hid hj
  have HL := Lib.hid hL
  clear hb0 h hs hk hj hL
  go_enter Tryd.func37, Tryd.ntmps37
  go_wp2_with fail
  refine (known_c lo b vB vM vs B M k (j : Int) _ HH.out).mono ?_
  rintro ev w' ⟨rfl, hww⟩
  obtain rfl := hww
  rw [decide_eq_true HK.out]
  have hX := heap_alloc_new w (.cells #[.int .i64 1, .int .i64 (k : Int), .int .i64 (j : Int), .int .u32 va, .int .u32 ne, .bool dn] 24)
  have HB1 := Lib.hid HB0.out
  generalize w.alloc (.cells #[.int .i64 1, .int .i64 (k : Int), .int .i64 (j : Int), .int .u32 va, .int .u32 ne, .bool dn] 24) = W at *
  have q0 := cell_of hX 0
  have q1 := cell_of hX 1
  have q2 := cell_of hX 2
  have q3 := cell_of hX 3
  simp only [List.getElem?_toArray, List.getElem?_cons_zero, List.getElem?_cons_succ] at q0 q1 q2 q3
  have hxl := (Array.getElem?_eq_some_iff.1 hX).1
  have hbl := (HH.out.lt b (.inl rfl)).2
  have c0 := cell_of HH.out.blk 0
  have c1 := cell_of HH.out.blk 1
  simp only [List.getElem?_toArray, List.getElem?_cons_zero, List.getElem?_cons_succ] at c0 c1
  obtain ⟨gB, oB, kB, sd, cp, hvB, _, e0, _, hrow⟩ := HH.out.buf HKK.out
  obtain ⟨gM, oM, kM, hvM, e3, _⟩ := HH.out.mem HJJ.out
  have hgB := (HH.out.lt gB (.inr (.inl (by rw [hvB]; rfl)))).2
  have hgM := (HH.out.lt gM (.inr (.inr (.inl (by rw [hvM]; rfl))))).2
  rw [hvB] at c0
  rw [hvM] at c1
  rw [HL.out] at e0 hrow
  have hkl : (k : Int) < B.length := by have := HKK.out; omega
  have hjl : (j : Int) < M.length := by have := HJJ.out; omega
  have HROW := Lib.hid hrow
  have HE3 := Lib.hid e3
  have C1 := Lib.hid c1
  clear hX hvB hvM hrow e3 c1
  go_wp2_with fail
  refine wp_region_lexA ⟨[], []⟩ (fun x => Below W.heap.size W x) (by kernel_rfl) (by kernel_rfl) (Below.refl _ _).drew ?_
  intro S hto hof hne
  have y0 : ∀ z : Wd S, z.w.cell? ⟨b, 0, none⟩ = some (.slice (some ⟨gB, oB, none⟩) B.length kB) := fun z => ((hto z).cell (p := ⟨b, 0, none⟩) hbl).trans c0
  have y1 : ∀ z : Wd S, z.w.cell? ⟨w.heap.size, 1, none⟩ = some (.int .i64 k) := fun z => ((hto z).cell (p := ⟨w.heap.size, 1, none⟩) hxl).trans q1
  have y2 : ∀ z : Wd S, z.w.cell? ⟨gB, oB + k, none⟩ = some (.slice sd (L : List (Int × Int)).length cp) := fun z => ((hto z).cell (p := ⟨gB, oB + k, none⟩) hgB).trans e0
  have Hof := Lib.hid hof
  clear hto hof e0 c0
  refine lexW_light 9 (by kernel_rfl) ?_
  simp only [List.take_succ_cons, List.take_zero, List.drop_succ_cons, List.drop_zero]
  repeat (first | go_big_quiet_skip | (go_big_quiet_want; go_big_quiet_op; go_big_quiet_on))
  refine wpQuiet_nil ?_
  refine lexW_done ?_
  clear y0 y1 y2
  have hD : Below W.heap.size W W.drew := (Below.refl _ _).drew
  have HHD := Lib.hid (HH.out.below hD)
  have HSD := Lib.hid (HS.out.below hD)
  have HRD := Lib.hid (HROW.out.below hD)
  have q0 := (hD.cell (p := ⟨w.heap.size, 0, none⟩) hxl).trans q0
  have q1 := (hD.cell (p := ⟨w.heap.size, 1, none⟩) hxl).trans q1
  have q2 := (hD.cell (p := ⟨w.heap.size, 2, none⟩) hxl).trans q2
  have q3 := (hD.cell (p := ⟨w.heap.size, 3, none⟩) hxl).trans q3
  have d1 := Lib.hid ((hD.cell (p := ⟨b, 1, none⟩) hbl).trans C1.out)
  have d3 := Lib.hid ((hD.cell (p := ⟨gM, oM + j, none⟩) hgM).trans HE3.out)
  have HBW := Lib.hid (HB1.out.trans (hD.mono HB1.out.size))
  have hxl := Nat.lt_of_lt_of_le hxl hD.size
  have hbl := Nat.lt_of_lt_of_le hbl hD.size
  have hgM := Nat.lt_of_lt_of_le hgM hD.size
  generalize W.drew = W2 at *
  clear hD
  have HRV := Lib.hid hr
  clear hr
  have HTR := Lib.hid (tread_ok lo b vB vM vs B M k j W2 HHD.out HKK.out HJJ.out)
  have gv : (va != va) = false := by simp
  go_wp2_with fail
  refine HTR.out.mono ?_
  rintro ev w' ⟨rfl, hww⟩
  obtain rfl := hww
  rw [HRV.out]
  go_wp2_with fail
  go_ret
  exact ⟨rfl, HBW.out⟩

set_option maxRecDepth 100000 in
set_option maxHeartbeats 4000000 in
theorem refused_load_no (A : Nat → Addr) (lo b : Nat) (vB vM : Value) (vs : List Value) (B : Bufs) (M : List Int) (k j : Nat) (L : List (Int × Int)) (rv : Int) (va ne : Int) (dn : Bool) (w : World) (hs : SentAt w A) (h : MdAt tyP w lo b vB vM vs B M) (hk : k < B.length) (hj : j < M.length)
    (hL : B.getD k [] = L) (hr : rdS B M k j = rv) (hrn : rv ≠ va) :
    Calls Tryd.prog 37 #[.pointer (some ⟨b, 0, none⟩), .agg #[.int .i64 1, .int .i64 (k : Int), .int .i64 (j : Int), .int .u32 va, .int .u32 ne, .bool dn]] w fun ev w' => ev = .returned ((ErrT.sent 9).val A) ∧ Below w.heap.size w w' := by
  have hb0 : Below w.heap.size w (w.alloc (.cells #[.int .i64 1, .int .i64 (k : Int), .int .i64 (j : Int), .int .u32 va, .int .u32 ne, .bool dn] 24)) := (Below.refl _ _).alloc (Nat.le_refl _) _
  have HS := Lib.hid (hs.below hb0)
  have HH := Lib.hid (h.below hb0)
  have HB0 := Lib.hid hb0
  have HK := Lib.hid (show okC B k ∧ okA M (j : Int) from ⟨⟨by omega, by omega⟩, ⟨by omega, by omega⟩⟩)
  have HKK := Lib.hid hk
  have HJJ := Lib.hid hj
  have HL := Lib.hid hL
  clear hb0 h hs hk hj hL
  go_enter Tryd.func37, Tryd.ntmps37
  go_wp2_with fail
  refine (known_c lo b vB vM vs B M k (j : Int) _ HH.out).mono ?_
  rintro ev w' ⟨rfl, hww⟩
  obtain rfl := hww
  rw [decide_eq_true HK.out]
  have hX := heap_alloc_new w (.cells #[.int .i64 1, .int .i64 (k : Int), .int .i64 (j : Int), .int .u32 va, .int .u32 ne, .bool dn] 24)
  have HB1 := Lib.hid HB0.out
  generalize w.alloc (.cells #[.int .i64 1, .int .i64 (k : Int), .int .i64 (j : Int), .int .u32 va, .int .u32 ne, .bool dn] 24) = W at *
  have q0 := cell_of hX 0
  have q1 := cell_of hX 1
  have q2 := cell_of hX 2
  have q3 := cell_of hX 3
  simp only [List.getElem?_toArray, List.getElem?_cons_zero, List.getElem?_cons_succ] at q0 q1 q2 q3
  have hxl := (Array.getElem?_eq_some_iff.1 hX).1
  have hbl := (HH.out.lt b (.inl rfl)).2
  have c0 := cell_of HH.out.blk 0
  have c1 := cell_of HH.out.blk 1
  simp only [List.getElem?_toArray, List.getElem?_cons_zero, List.getElem?_cons_succ] at c0 c1
  obtain ⟨gB, oB, kB, sd, cp, hvB, _, e0, _, hrow⟩ := HH.out.buf HKK.out
  obtain ⟨gM, oM, kM, hvM, e3, _⟩ := HH.out.mem HJJ.out
  have hgB := (HH.out.lt gB (.inr (.inl (by rw [hvB]; rfl)))).2
  have hgM := (HH.out.lt gM (.inr (.inr (.inl (by rw [hvM]; rfl))))).2
  rw [hvB] at c0
  rw [hvM] at c1
  rw [HL.out] at e0 hrow
  have hkl : (k : Int) < B.length := by have := HKK.out; omega
  have hjl : (j : Int) < M.length := by have := HJJ.out; omega
  have HROW := Lib.hid hrow
  have HE3 := Lib.hid e3
  have C1 := Lib.hid c1
  clear hX hvB hvM hrow e3 c1
  go_wp2_with fail
  refine wp_region_lexA ⟨[], []⟩ (fun x => Below W.heap.size W x) (by kernel_rfl) (by kernel_rfl) (Below.refl _ _).drew ?_
  intro S hto hof hne
  have y0 : ∀ z : Wd S, z.w.cell? ⟨b, 0, none⟩ = some (.slice (some ⟨gB, oB, none⟩) B.length kB) := fun z => ((hto z).cell (p := ⟨b, 0, none⟩) hbl).trans c0
  have y1 : ∀ z : Wd S, z.w.cell? ⟨w.heap.size, 1, none⟩ = some (.int .i64 k) := fun z => ((hto z).cell (p := ⟨w.heap.size, 1, none⟩) hxl).trans q1
  have y2 : ∀ z : Wd S, z.w.cell? ⟨gB, oB + k, none⟩ = some (.slice sd (L : List (Int × Int)).length cp) := fun z => ((hto z).cell (p := ⟨gB, oB + k, none⟩) hgB).trans e0
  have Hof := Lib.hid hof
  clear hto hof e0 c0
  refine lexW_light 9 (by kernel_rfl) ?_
  simp only [List.take_succ_cons, List.take_zero, List.drop_succ_cons, List.drop_zero]
  repeat (first | go_big_quiet_skip | (go_big_quiet_want; go_big_quiet_op; go_big_quiet_on))
  refine wpQuiet_nil ?_
  refine lexW_done ?_
  clear y0 y1 y2
  have hD : Below W.heap.size W W.drew := (Below.refl _ _).drew
  have HHD := Lib.hid (HH.out.below hD)
  have HSD := Lib.hid (HS.out.below hD)
  have HRD := Lib.hid (HROW.out.below hD)
  have q0 := (hD.cell (p := ⟨w.heap.size, 0, none⟩) hxl).trans q0
  have q1 := (hD.cell (p := ⟨w.heap.size, 1, none⟩) hxl).trans q1
  have q2 := (hD.cell (p := ⟨w.heap.size, 2, none⟩) hxl).trans q2
  have q3 := (hD.cell (p := ⟨w.heap.size, 3, none⟩) hxl).trans q3
  have d1 := Lib.hid ((hD.cell (p := ⟨b, 1, none⟩) hbl).trans C1.out)
  have d3 := Lib.hid ((hD.cell (p := ⟨gM, oM + j, none⟩) hgM).trans HE3.out)
  have HBW := Lib.hid (HB1.out.trans (hD.mono HB1.out.size))
  have hxl := Nat.lt_of_lt_of_le hxl hD.size
  have hbl := Nat.lt_of_lt_of_le hbl hD.size
  have hgM := Nat.lt_of_lt_of_le hgM hD.size
  generalize W.drew = W2 at *
  clear hD
  have HRV := Lib.hid hr
  have gv : (rv != va) = true := by simpa using hrn
  clear hr hrn
  have hgl := HSD.out.glob 9 (by omega)
  simp only [gnum] at hgl
  have HTR := Lib.hid (tread_ok lo b vB vM vs B M k j W2 HHD.out HKK.out HJJ.out)
  go_wp2_with fail
  refine HTR.out.mono ?_
  rintro ev w' ⟨rfl, hww⟩
  obtain rfl := hww
  rw [HRV.out]
  go_wp2_with fail
  go_ret
  exact ⟨rfl, HBW.out⟩

set_option maxRecDepth 100000 in
set_option maxHeartbeats 4000000 in
theorem refused_store (A : Nat → Addr) (lo b : Nat) (vB vM : Value) (vs : List Value) (B : Bufs) (M : List Int) (k j : Nat) (L : List (Int × Int)) (va ne : Int) (dn : Bool) (w : World) (hs : SentAt w A) (h : MdAt tyP w lo b vB vM vs B M) (hk : k < B.length) (hj : j < M.length)
    (hL : B.getD k [] = L) :
    Calls Tryd.prog 37 #[.pointer (some ⟨b, 0, none⟩), .agg #[.int .i64 2, .int .i64 (k : Int), .int .i64 (j : Int), .int .u32 va, .int .u32 ne, .bool dn]] w fun ev w' => ev = .returned (ErrT.nil.val A) ∧ Below w.heap.size w w' := by
  have hb0 : Below w.heap.size w (w.alloc (.cells #[.int .i64 2, .int .i64 (k : Int), .int .i64 (j : Int), .int .u32 va, .int .u32 ne, .bool dn] 24)) := (Below.refl _ _).alloc (Nat.le_refl _) _
  have HS := Lib.hid (hs.below hb0)
  have HH := Lib.hid (h.below hb0)
  have HB0 := Lib.hid hb0
  have HK := Lib.hid (show okC B k ∧ okA M (j : Int) from ⟨⟨by omega, by omega⟩, ⟨by omega, by omega⟩⟩)
  have HKK := Lib.hid hk
  have HJJ := Lib.hid hj
  have HL := Lib.hid hL
  clear hb0 h hs hk hj hL
  go_enter Tryd.func37, Tryd.ntmps37
  go_wp2_with fail
  refine (known_c lo b vB vM vs B M k (j : Int) _ HH.out).mono ?_
  rintro ev w' ⟨rfl, hww⟩
  obtain rfl := hww
  rw [decide_eq_true HK.out]
  have hX := heap_alloc_new w (.cells #[.int .i64 2, .int .i64 (k : Int), .int .i64 (j : Int), .int .u32 va, .int .u32 ne, .bool dn] 24)
  have HB1 := Lib.hid HB0.out
  generalize w.alloc (.cells #[.int .i64 2, .int .i64 (k : Int), .int .i64 (j : Int), .int .u32 va, .int .u32 ne, .bool dn] 24) = W at *
  have q0 := cell_of hX 0
  have q1 := cell_of hX 1
  have q2 := cell_of hX 2
  have q3 := cell_of hX 3
  simp only [List.getElem?_toArray, List.getElem?_cons_zero, List.getElem?_cons_succ] at q0 q1 q2 q3
  have hxl := (Array.getElem?_eq_some_iff.1 hX).1
  have hbl := (HH.out.lt b (.inl rfl)).2
  have c0 := cell_of HH.out.blk 0
  have c1 := cell_of HH.out.blk 1
  simp only [List.getElem?_toArray, List.getElem?_cons_zero, List.getElem?_cons_succ] at c0 c1
  obtain ⟨gB, oB, kB, sd, cp, hvB, _, e0, _, hrow⟩ := HH.out.buf HKK.out
  obtain ⟨gM, oM, kM, hvM, e3, _⟩ := HH.out.mem HJJ.out
  have hgB := (HH.out.lt gB (.inr (.inl (by rw [hvB]; rfl)))).2
  have hgM := (HH.out.lt gM (.inr (.inr (.inl (by rw [hvM]; rfl))))).2
  rw [hvB] at c0
  rw [hvM] at c1
  rw [HL.out] at e0 hrow
  have hkl : (k : Int) < B.length := by have := HKK.out; omega
  have hjl : (j : Int) < M.length := by have := HJJ.out; omega
  have HROW := Lib.hid hrow
  have HE3 := Lib.hid e3
  have C1 := Lib.hid c1
  clear hX hvB hvM hrow e3 c1
  go_wp2_with fail
  refine wp_region_lexA ⟨[], []⟩ (fun x => Below W.heap.size W x) (by kernel_rfl) (by kernel_rfl) (Below.refl _ _).drew ?_
  intro S hto hof hne
  have y0 : ∀ z : Wd S, z.w.cell? ⟨b, 0, none⟩ = some (.slice (some ⟨gB, oB, none⟩) B.length kB) := fun z => ((hto z).cell (p := ⟨b, 0, none⟩) hbl).trans c0
  have y1 : ∀ z : Wd S, z.w.cell? ⟨w.heap.size, 1, none⟩ = some (.int .i64 k) := fun z => ((hto z).cell (p := ⟨w.heap.size, 1, none⟩) hxl).trans q1
  have y2 : ∀ z : Wd S, z.w.cell? ⟨gB, oB + k, none⟩ = some (.slice sd (L : List (Int × Int)).length cp) := fun z => ((hto z).cell (p := ⟨gB, oB + k, none⟩) hgB).trans e0
  have Hof := Lib.hid hof
  clear hto hof e0 c0
  refine lexW_light 9 (by kernel_rfl) ?_
  simp only [List.take_succ_cons, List.take_zero, List.drop_succ_cons, List.drop_zero]
  repeat (first | go_big_quiet_skip | (go_big_quiet_want; go_big_quiet_op; go_big_quiet_on))
  refine wpQuiet_nil ?_
  refine lexW_done ?_
  clear y0 y1 y2
  have hD : Below W.heap.size W W.drew := (Below.refl _ _).drew
  have HHD := Lib.hid (HH.out.below hD)
  have HSD := Lib.hid (HS.out.below hD)
  have HRD := Lib.hid (HROW.out.below hD)
  have q0 := (hD.cell (p := ⟨w.heap.size, 0, none⟩) hxl).trans q0
  have q1 := (hD.cell (p := ⟨w.heap.size, 1, none⟩) hxl).trans q1
  have q2 := (hD.cell (p := ⟨w.heap.size, 2, none⟩) hxl).trans q2
  have q3 := (hD.cell (p := ⟨w.heap.size, 3, none⟩) hxl).trans q3
  have d1 := Lib.hid ((hD.cell (p := ⟨b, 1, none⟩) hbl).trans C1.out)
  have d3 := Lib.hid ((hD.cell (p := ⟨gM, oM + j, none⟩) hgM).trans HE3.out)
  have HBW := Lib.hid (HB1.out.trans (hD.mono HB1.out.size))
  have hxl := Nat.lt_of_lt_of_le hxl hD.size
  have hbl := Nat.lt_of_lt_of_le hbl hD.size
  have hgM := Nat.lt_of_lt_of_le hgM hD.size
  generalize W.drew = W2 at *
  clear hD
  go_wp2_with fail
  go_ret
  exact ⟨rfl, HBW.out⟩

set_option maxRecDepth 100000 in
set_option maxHeartbeats 4000000 in
theorem refused_commit_none (A : Nat → Addr) (lo b : Nat) (vB vM : Value) (vs : List Value) (B : Bufs) (M : List Int) (k j : Nat) (va ne : Int) (dn : Bool) (w : World) (hs : SentAt w A) (h : MdAt tyP w lo b vB vM vs B M) (hk : k < B.length) (hj : j < M.length)
    (hL : B.getD k [] = []) :
    Calls Tryd.prog 37 #[.pointer (some ⟨b, 0, none⟩), .agg #[.int .i64 3, .int .i64 (k : Int), .int .i64 (j : Int), .int .u32 va, .int .u32 ne, .bool dn]] w fun ev w' => ev = .returned ((ErrT.sent 8).val A) ∧ Below w.heap.size w w' := by
  have hb0 : Below w.heap.size w (w.alloc (.cells #[.int .i64 3, .int .i64 (k : Int), .int .i64 (j : Int), .int .u32 va, .int .u32 ne, .bool dn] 24)) := (Below.refl _ _).alloc (Nat.le_refl _) _
  have HS := Lib.hid (hs.below hb0)
  have HH := Lib.hid (h.below hb0)
  have HB0 := Lib.hid hb0
  have HK := Lib.hid (show okC B k ∧ okA M (j : Int) from ⟨⟨by omega, by omega⟩, ⟨by omega, by omega⟩⟩)
  have HKK := Lib.hid hk
  have HJJ := Lib.hid hj
  have HL := Lib.hid hL
  clear hb0 h hs hk hj hL
  go_enter Tryd.func37, Tryd.ntmps37
  go_wp2_with fail
  refine (known_c lo b vB vM vs B M k (j : Int) _ HH.out).mono ?_
  rintro ev w' ⟨rfl, hww⟩
  obtain rfl := hww
  rw [decide_eq_true HK.out]
  have hX := heap_alloc_new w (.cells #[.int .i64 3, .int .i64 (k : Int), .int .i64 (j : Int), .int .u32 va, .int .u32 ne, .bool dn] 24)
  have HB1 := Lib.hid HB0.out
  generalize w.alloc (.cells #[.int .i64 3, .int .i64 (k : Int), .int .i64 (j : Int), .int .u32 va, .int .u32 ne, .bool dn] 24) = W at *
  have q0 := cell_of hX 0
  have q1 := cell_of hX 1
  have q2 := cell_of hX 2
  have q3 := cell_of hX 3
  simp only [List.getElem?_toArray, List.getElem?_cons_zero, List.getElem?_cons_succ] at q0 q1 q2 q3
  have hxl := (Array.getElem?_eq_some_iff.1 hX).1
  have hbl := (HH.out.lt b (.inl rfl)).2
  have c0 := cell_of HH.out.blk 0
  have c1 := cell_of HH.out.blk 1
  simp only [List.getElem?_toArray, List.getElem?_cons_zero, List.getElem?_cons_succ] at c0 c1
  obtain ⟨gB, oB, kB, sd, cp, hvB, _, e0, _, hrow⟩ := HH.out.buf HKK.out
  obtain ⟨gM, oM, kM, hvM, e3, _⟩ := HH.out.mem HJJ.out
  have hgB := (HH.out.lt gB (.inr (.inl (by rw [hvB]; rfl)))).2
  have hgM := (HH.out.lt gM (.inr (.inr (.inl (by rw [hvM]; rfl))))).2
  rw [hvB] at c0
  rw [hvM] at c1
  rw [HL.out] at e0 hrow
  have hkl : (k : Int) < B.length := by have := HKK.out; omega
  have hjl : (j : Int) < M.length := by have := HJJ.out; omega
  have HROW := Lib.hid hrow
  have HE3 := Lib.hid e3
  have C1 := Lib.hid c1
  clear hX hvB hvM hrow e3 c1
  go_wp2_with fail
  refine wp_region_lexA ⟨[], []⟩ (fun x => Below W.heap.size W x) (by kernel_rfl) (by kernel_rfl) (Below.refl _ _).drew ?_
  intro S hto hof hne
  have y0 : ∀ z : Wd S, z.w.cell? ⟨b, 0, none⟩ = some (.slice (some ⟨gB, oB, none⟩) B.length kB) := fun z => ((hto z).cell (p := ⟨b, 0, none⟩) hbl).trans c0
  have y1 : ∀ z : Wd S, z.w.cell? ⟨w.heap.size, 1, none⟩ = some (.int .i64 k) := fun z => ((hto z).cell (p := ⟨w.heap.size, 1, none⟩) hxl).trans q1
  have y2 : ∀ z : Wd S, z.w.cell? ⟨gB, oB + k, none⟩ = some (.slice sd ([] : List (Int × Int)).length cp) := fun z => ((hto z).cell (p := ⟨gB, oB + k, none⟩) hgB).trans e0
  have Hof := Lib.hid hof
  clear hto hof e0 c0
  refine lexW_light 9 (by kernel_rfl) ?_
  simp only [List.take_succ_cons, List.take_zero, List.drop_succ_cons, List.drop_zero]
  repeat (first | go_big_quiet_skip | (go_big_quiet_want; go_big_quiet_op; go_big_quiet_on))
  refine wpQuiet_nil ?_
  refine lexW_done ?_
  clear y0 y1 y2
  have hD : Below W.heap.size W W.drew := (Below.refl _ _).drew
  have HHD := Lib.hid (HH.out.below hD)
  have HSD := Lib.hid (HS.out.below hD)
  have HRD := Lib.hid (HROW.out.below hD)
  have q0 := (hD.cell (p := ⟨w.heap.size, 0, none⟩) hxl).trans q0
  have q1 := (hD.cell (p := ⟨w.heap.size, 1, none⟩) hxl).trans q1
  have q2 := (hD.cell (p := ⟨w.heap.size, 2, none⟩) hxl).trans q2
  have q3 := (hD.cell (p := ⟨w.heap.size, 3, none⟩) hxl).trans q3
  have d1 := Lib.hid ((hD.cell (p := ⟨b, 1, none⟩) hbl).trans C1.out)
  have d3 := Lib.hid ((hD.cell (p := ⟨gM, oM + j, none⟩) hgM).trans HE3.out)
  have HBW := Lib.hid (HB1.out.trans (hD.mono HB1.out.size))
  have hxl := Nat.lt_of_lt_of_le hxl hD.size
  have hbl := Nat.lt_of_lt_of_le hbl hD.size
  have hgM := Nat.lt_of_lt_of_le hgM hD.size
  generalize W.drew = W2 at *
  clear hD
  have hgl := HSD.out.glob 8 (by omega)
  simp only [gnum] at hgl
  simp only [List.length_nil] at *
  go_wp2_with fail
  go_ret
  exact ⟨rfl, HBW.out⟩

set_option maxRecDepth 100000 in
set_option maxHeartbeats 4000000 in
theorem refused_commit_no1 (A : Nat → Addr) (lo b : Nat) (vB vM : Value) (vs : List Value) (B : Bufs) (M : List Int) (k j : Nat) (x1 x2 : Int) (L : List (Int × Int)) (va ne : Int) (dn : Bool) (w : World) (hs : SentAt w A) (h : MdAt tyP w lo b vB vM vs B M) (hk : k < B.length) (hj : j < M.length)
    (hL : B.getD k [] = (x1, x2) :: L) (hx : x1 ≠ (j : Int)) :
    Calls Tryd.prog 37 #[.pointer (some ⟨b, 0, none⟩), .agg #[.int .i64 3, .int .i64 (k : Int), .int .i64 (j : Int), .int .u32 va, .int .u32 ne, .bool dn]] w fun ev w' => ev = .returned ((ErrT.sent 9).val A) ∧ Below w.heap.size w w' := by
  have hb0 : Below w.heap.size w (w.alloc (.cells #[.int .i64 3, .int .i64 (k : Int), .int .i64 (j : Int), .int .u32 va, .int .u32 ne, .bool dn] 24)) := (Below.refl _ _).alloc (Nat.le_refl _) _
  have HS := Lib.hid (hs.below hb0)
  have HH := Lib.hid (h.below hb0)
  have HB0 := Lib.hid hb0
  have HK := Lib.hid (show okC B k ∧ okA M (j : Int) from ⟨⟨by omega, by omega⟩, ⟨by omega, by omega⟩⟩)
  have HKK := Lib.hid hk
  have HJJ := Lib.hid hj
  have HL := Lib.hid hL
  clear hb0 h hs hk hj hL
  go_enter Tryd.func37, Tryd.ntmps37
  go_wp2_with fail
  refine (known_c lo b vB vM vs B M k (j : Int) _ HH.out).mono ?_
  rintro ev w' ⟨rfl, hww⟩
  obtain rfl := hww
  rw [decide_eq_true HK.out]
  have hX := heap_alloc_new w (.cells #[.int .i64 3, .int .i64 (k : Int), .int .i64 (j : Int), .int .u32 va, .int .u32 ne, .bool dn] 24)
  have HB1 := Lib.hid HB0.out
  generalize w.alloc (.cells #[.int .i64 3, .int .i64 (k : Int), .int .i64 (j : Int), .int .u32 va, .int .u32 ne, .bool dn] 24) = W at *
  have q0 := cell_of hX 0
  have q1 := cell_of hX 1
  have q2 := cell_of hX 2
  have q3 := cell_of hX 3
  simp only [List.getElem?_toArray, List.getElem?_cons_zero, List.getElem?_cons_succ] at q0 q1 q2 q3
  have hxl := (Array.getElem?_eq_some_iff.1 hX).1
  have hbl := (HH.out.lt b (.inl rfl)).2
  have c0 := cell_of HH.out.blk 0
  have c1 := cell_of HH.out.blk 1
  simp only [List.getElem?_toArray, List.getElem?_cons_zero, List.getElem?_cons_succ] at c0 c1
  obtain ⟨gB, oB, kB, sd, cp, hvB, _, e0, _, hrow⟩ := HH.out.buf HKK.out
  obtain ⟨gM, oM, kM, hvM, e3, _⟩ := HH.out.mem HJJ.out
  have hgB := (HH.out.lt gB (.inr (.inl (by rw [hvB]; rfl)))).2
  have hgM := (HH.out.lt gM (.inr (.inr (.inl (by rw [hvM]; rfl))))).2
  rw [hvB] at c0
  rw [hvM] at c1
  rw [HL.out] at e0 hrow
  have hkl : (k : Int) < B.length := by have := HKK.out; omega
  have hjl : (j : Int) < M.length := by have := HJJ.out; omega
  have HROW := Lib.hid hrow
  have HE3 := Lib.hid e3
  have C1 := Lib.hid c1
  clear hX hvB hvM hrow e3 c1
  go_wp2_with fail
  refine wp_region_lexA ⟨[], []⟩ (fun x => Below W.heap.size W x) (by kernel_rfl) (by kernel_rfl) (Below.refl _ _).drew ?_
  intro S hto hof hne
  have y0 : ∀ z : Wd S, z.w.cell? ⟨b, 0, none⟩ = some (.slice (some ⟨gB, oB, none⟩) B.length kB) := fun z => ((hto z).cell (p := ⟨b, 0, none⟩) hbl).trans c0
  have y1 : ∀ z : Wd S, z.w.cell? ⟨w.heap.size, 1, none⟩ = some (.int .i64 k) := fun z => ((hto z).cell (p := ⟨w.heap.size, 1, none⟩) hxl).trans q1
  have y2 : ∀ z : Wd S, z.w.cell? ⟨gB, oB + k, none⟩ = some (.slice sd ((x1, x2) :: L : List (Int × Int)).length cp) := fun z => ((hto z).cell (p := ⟨gB, oB + k, none⟩) hgB).trans e0
  have Hof := Lib.hid hof
  clear hto hof e0 c0
  refine lexW_light 9 (by kernel_rfl) ?_
  simp only [List.take_succ_cons, List.take_zero, List.drop_succ_cons, List.drop_zero]
  repeat (first | go_big_quiet_skip | (go_big_quiet_want; go_big_quiet_op; go_big_quiet_on))
  refine wpQuiet_nil ?_
  refine lexW_done ?_
  clear y0 y1 y2
  have hD : Below W.heap.size W W.drew := (Below.refl _ _).drew
  have HHD := Lib.hid (HH.out.below hD)
  have HSD := Lib.hid (HS.out.below hD)
  have HRD := Lib.hid (HROW.out.below hD)
  have q0 := (hD.cell (p := ⟨w.heap.size, 0, none⟩) hxl).trans q0
  have q1 := (hD.cell (p := ⟨w.heap.size, 1, none⟩) hxl).trans q1
  have q2 := (hD.cell (p := ⟨w.heap.size, 2, none⟩) hxl).trans q2
  have q3 := (hD.cell (p := ⟨w.heap.size, 3, none⟩) hxl).trans q3
  have d1 := Lib.hid ((hD.cell (p := ⟨b, 1, none⟩) hbl).trans C1.out)
  have d3 := Lib.hid ((hD.cell (p := ⟨gM, oM + j, none⟩) hgM).trans HE3.out)
  have HBW := Lib.hid (HB1.out.trans (hD.mono HB1.out.size))
  have hxl := Nat.lt_of_lt_of_le hxl hD.size
  have hbl := Nat.lt_of_lt_of_le hbl hD.size
  have hgM := Nat.lt_of_lt_of_le hgM hD.size
  generalize W.drew = W2 at *
  clear hD
  obtain ⟨gw, ow, cw, he, _, _, hgw, hcc⟩ := HRD.out.form (by simp)
  simp only [Value.slice.injEq] at he
  obtain ⟨rfl, _, rfl⟩ := he
  have f1 := hcc 0 (.int .i64 x1) rfl
  have f2 := hcc 1 (.int .u32 x2) rfl
  rw [Nat.add_zero] at f1
  have hl0 : ((((x1, x2) :: L).length : Int) == 0) = false := by simp only [List.length_cons, beq_eq_false_iff_ne]; omega
  have hl1 : (0 : Int) < ((x1, x2) :: L).length := by simp only [List.length_cons]; omega
  have hl2 : 0 < ((x1, x2) :: L).length := by simp only [List.length_cons]; omega
  clear hcc
  generalize ((x1, x2) :: L).length = len at *
  have gx : (x1 == (j : Int)) = false := by simpa using hx
  clear hx
  go_wp2_with fail
  refine wp_region_lexA ⟨[], []⟩ (fun x => Below W2.heap.size W2 x) (by kernel_rfl) (by kernel_rfl) (Below.refl _ _).drew ?_
  intro S hto hof hne
  have y1 : ∀ z : Wd S, z.w.cell? ⟨gw, ow, none⟩ = some (.int .i64 x1) := fun z => ((hto z).cell (p := ⟨gw, ow, none⟩) hgw).trans f1
  have y2 : ∀ z : Wd S, z.w.cell? ⟨gw, ow + 1, none⟩ = some (.int .u32 x2) := fun z => ((hto z).cell (p := ⟨gw, ow + 1, none⟩) hgw).trans f2
  have y3 : ∀ z : Wd S, z.w.cell? ⟨w.heap.size, 3, none⟩ = some (.int .u32 va) := fun z => ((hto z).cell (p := ⟨w.heap.size, 3, none⟩) hxl).trans q3
  have Hof := Lib.hid hof
  clear hto hof f1 f2
  refine lexW_light 8 (by kernel_rfl) ?_
  simp only [List.take_succ_cons, List.take_zero, List.drop_succ_cons, List.drop_zero]
  repeat (first | go_big_quiet_skip | (go_big_quiet_want; go_big_quiet_op; go_big_quiet_on))
  refine wpQuiet_nil ?_
  refine lexW_done ?_
  clear y1 y2 y3
  have hgl := (HSD.out.below (Below.refl _ _).drew).glob 9 (by omega)
  simp only [gnum] at hgl
  go_wp2_with fail
  go_ret
  exact ⟨rfl, HBW.out.drew⟩

set_option maxRecDepth 100000 in
set_option maxHeartbeats 4000000 in
theorem refused_commit_no2 (A : Nat → Addr) (lo b : Nat) (vB vM : Value) (vs : List Value) (B : Bufs) (M : List Int) (k j : Nat) (x2 : Int) (L : List (Int × Int)) (va ne : Int) (dn : Bool) (w : World) (hs : SentAt w A) (h : MdAt tyP w lo b vB vM vs B M) (hk : k < B.length) (hj : j < M.length)
    (hL : B.getD k [] = ((j : Int), x2) :: L) (hx : x2 ≠ va) :
    Calls Tryd.prog 37 #[.pointer (some ⟨b, 0, none⟩), .agg #[.int .i64 3, .int .i64 (k : Int), .int .i64 (j : Int), .int .u32 va, .int .u32 ne, .bool dn]] w fun ev w' => ev = .returned ((ErrT.sent 9).val A) ∧ Below w.heap.size w w' := by
  have hb0 : Below w.heap.size w (w.alloc (.cells #[.int .i64 3, .int .i64 (k : Int), .int .i64 (j : Int), .int .u32 va, .int .u32 ne, .bool dn] 24)) := (Below.refl _ _).alloc (Nat.le_refl _) _
  have HS := Lib.hid (hs.below hb0)
  have HH := Lib.hid (h.below hb0)
  have HB0 := Lib.hid hb0
  have HK := Lib.hid (show okC B k ∧ okA M (j : Int) from ⟨⟨by omega, by omega⟩, ⟨by omega, by omega⟩⟩)
  have HKK := Lib.hid hk
  have HJJ := Lib.hid hj
  have HL := Lib.hid hL
  clear hb0 h hs hk hj hL
  go_enter Tryd.func37, Tryd.ntmps37
  go_wp2_with fail
  refine (known_c lo b vB vM vs B M k (j : Int) _ HH.out).mono ?_
  rintro ev w' ⟨rfl, hww⟩
  obtain rfl := hww
  rw [decide_eq_true HK.out]
  have hX := heap_alloc_new w (.cells #[.int .i64 3, .int .i64 (k : Int), .int .i64 (j : Int), .int .u32 va, .int .u32 ne, .bool dn] 24)
  have HB1 := Lib.hid HB0.out
  generalize w.alloc (.cells #[.int .i64 3, .int .i64 (k : Int), .int .i64 (j : Int), .int .u32 va, .int .u32 ne, .bool dn] 24) = W at *
  have q0 := cell_of hX 0
  have q1 := cell_of hX 1
  have q2 := cell_of hX 2
  have q3 := cell_of hX 3
  simp only [List.getElem?_toArray, List.getElem?_cons_zero, List.getElem?_cons_succ] at q0 q1 q2 q3
  have hxl := (Array.getElem?_eq_some_iff.1 hX).1
  have hbl := (HH.out.lt b (.inl rfl)).2
  have c0 := cell_of HH.out.blk 0
  have c1 := cell_of HH.out.blk 1
  simp only [List.getElem?_toArray, List.getElem?_cons_zero, List.getElem?_cons_succ] at c0 c1
  obtain ⟨gB, oB, kB, sd, cp, hvB, _, e0, _, hrow⟩ := HH.out.buf HKK.out
  obtain ⟨gM, oM, kM, hvM, e3, _⟩ := HH.out.mem HJJ.out
  have hgB := (HH.out.lt gB (.inr (.inl (by rw [hvB]; rfl)))).2
  have hgM := (HH.out.lt gM (.inr (.inr (.inl (by rw [hvM]; rfl))))).2
  rw [hvB] at c0
  rw [hvM] at c1
  rw [HL.out] at e0 hrow
  have hkl : (k : Int) < B.length := by have := HKK.out; omega
  have hjl : (j : Int) < M.length := by have := HJJ.out; omega
  have HROW := Lib.hid hrow
  have HE3 := Lib.hid e3
  have C1 := Lib.hid c1
  clear hX hvB hvM hrow e3 c1
  go_wp2_with fail
  refine wp_region_lexA ⟨[], []⟩ (fun x => Below W.heap.size W x) (by kernel_rfl) (by kernel_rfl) (Below.refl _ _).drew ?_
  intro S hto hof hne
  have y0 : ∀ z : Wd S, z.w.cell? ⟨b, 0, none⟩ = some (.slice (some ⟨gB, oB, none⟩) B.length kB) := fun z => ((hto z).cell (p := ⟨b, 0, none⟩) hbl).trans c0
  have y1 : ∀ z : Wd S, z.w.cell? ⟨w.heap.size, 1, none⟩ = some (.int .i64 k) := fun z => ((hto z).cell (p := ⟨w.heap.size, 1, none⟩) hxl).trans q1
  have y2 : ∀ z : Wd S, z.w.cell? ⟨gB, oB + k, none⟩ = some (.slice sd (((j : Int), x2) :: L : List (Int × Int)).length cp) := fun z => ((hto z).cell (p := ⟨gB, oB + k, none⟩) hgB).trans e0
  have Hof := Lib.hid hof
  clear hto hof e0 c0
  refine lexW_light 9 (by kernel_rfl) ?_
  simp only [List.take_succ_cons, List.take_zero, List.drop_succ_cons, List.drop_zero]
  repeat (first | go_big_quiet_skip | (go_big_quiet_want; go_big_quiet_op; go_big_quiet_on))
  refine wpQuiet_nil ?_
  refine lexW_done ?_
  clear y0 y1 y2
  have hD : Below W.heap.size W W.drew := (Below.refl _ _).drew
  have HHD := Lib.hid (HH.out.below hD)
  have HSD := Lib.hid (HS.out.below hD)
  have HRD := Lib.hid (HROW.out.below hD)
  have q0 := (hD.cell (p := ⟨w.heap.size, 0, none⟩) hxl).trans q0
  have q1 := (hD.cell (p := ⟨w.heap.size, 1, none⟩) hxl).trans q1
  have q2 := (hD.cell (p := ⟨w.heap.size, 2, none⟩) hxl).trans q2
  have q3 := (hD.cell (p := ⟨w.heap.size, 3, none⟩) hxl).trans q3
  have d1 := Lib.hid ((hD.cell (p := ⟨b, 1, none⟩) hbl).trans C1.out)
  have d3 := Lib.hid ((hD.cell (p := ⟨gM, oM + j, none⟩) hgM).trans HE3.out)
  have HBW := Lib.hid (HB1.out.trans (hD.mono HB1.out.size))
  have hxl := Nat.lt_of_lt_of_le hxl hD.size
  have hbl := Nat.lt_of_lt_of_le hbl hD.size
  have hgM := Nat.lt_of_lt_of_le hgM hD.size
  generalize W.drew = W2 at *
  clear hD
  obtain ⟨gw, ow, cw, he, _, _, hgw, hcc⟩ := HRD.out.form (by simp)
  simp only [Value.slice.injEq] at he
  obtain ⟨rfl, _, rfl⟩ := he
  have f1 := hcc 0 (.int .i64 (j : Int)) rfl
  have f2 := hcc 1 (.int .u32 x2) rfl
  rw [Nat.add_zero] at f1
  have hl0 : (((((j : Int), x2) :: L).length : Int) == 0) = false := by simp only [List.length_cons, beq_eq_false_iff_ne]; omega
  have hl1 : (0 : Int) < (((j : Int), x2) :: L).length := by simp only [List.length_cons]; omega
  have hl2 : 0 < (((j : Int), x2) :: L).length := by simp only [List.length_cons]; omega
  clear hcc
  generalize (((j : Int), x2) :: L).length = len at *
  have gx : (x2 == va) = false := by simpa using hx
  clear hx
  go_wp2_with fail
  refine wp_region_lexA ⟨[], []⟩ (fun x => Below W2.heap.size W2 x) (by kernel_rfl) (by kernel_rfl) (Below.refl _ _).drew ?_
  intro S hto hof hne
  have y1 : ∀ z : Wd S, z.w.cell? ⟨gw, ow, none⟩ = some (.int .i64 (j : Int)) := fun z => ((hto z).cell (p := ⟨gw, ow, none⟩) hgw).trans f1
  have y2 : ∀ z : Wd S, z.w.cell? ⟨gw, ow + 1, none⟩ = some (.int .u32 x2) := fun z => ((hto z).cell (p := ⟨gw, ow + 1, none⟩) hgw).trans f2
  have y3 : ∀ z : Wd S, z.w.cell? ⟨w.heap.size, 3, none⟩ = some (.int .u32 va) := fun z => ((hto z).cell (p := ⟨w.heap.size, 3, none⟩) hxl).trans q3
  have Hof := Lib.hid hof
  clear hto hof f1 f2
  refine lexW_light 8 (by kernel_rfl) ?_
  simp only [List.take_succ_cons, List.take_zero, List.drop_succ_cons, List.drop_zero]
  repeat (first | go_big_quiet_skip | (go_big_quiet_want; go_big_quiet_op; go_big_quiet_on))
  refine wpQuiet_nil ?_
  refine lexW_done ?_
  clear y1 y2 y3
  have hgl := (HSD.out.below (Below.refl _ _).drew).glob 9 (by omega)
  simp only [gnum] at hgl
  go_wp2_with fail
  go_ret
  exact ⟨rfl, HBW.out.drew⟩

set_option maxRecDepth 100000 in
set_option maxHeartbeats 4000000 in
theorem refused_commit_ok (A : Nat → Addr) (lo b : Nat) (vB vM : Value) (vs : List Value) (B : Bufs) (M : List Int) (k j : Nat) (L : List (Int × Int)) (va ne : Int) (dn : Bool) (w : World) (hs : SentAt w A) (h : MdAt tyP w lo b vB vM vs B M) (hk : k < B.length) (hj : j < M.length)
    (hL : B.getD k [] = ((j : Int), va) :: L) :
    Calls Tryd.prog 37 #[.pointer (some ⟨b, 0, none⟩), .agg #[.int .i64 3, .int .i64 (k : Int), .int .i64 (j : Int), .int .u32 va, .int .u32 ne, .bool dn]] w fun ev w' => ev = .returned (ErrT.nil.val A) ∧ Below w.heap.size w w' := by
  have hb0 : Below w.heap.size w (w.alloc (.cells #[.int .i64 3, .int .i64 (k : Int), .int .i64 (j : Int), .int .u32 va, .int .u32 ne, .bool dn] 24)) := (Below.refl _ _).alloc (Nat.le_refl _) _
  have HS := Lib.hid (hs.below hb0)
  have HH := Lib.hid (h.below hb0)
  have HB0 := Lib.hid hb0
  have HK := Lib.hid (show okC B k ∧ okA M (j : Int) from ⟨⟨by omega, by omega⟩, ⟨by omega, by omega⟩⟩)
  have HKK := Lib.hid hk
  have HJJ := Lib.hid hj
  have HL := Lib.hid hL
  clear hb0 h hs hk hj hL
  go_enter Tryd.func37, Tryd.ntmps37
  go_wp2_with fail
  refine (known_c lo b vB vM vs B M k (j : Int) _ HH.out).mono ?_
  rintro ev w' ⟨rfl, hww⟩
  obtain rfl := hww
  rw [decide_eq_true HK.out]
  have hX := heap_alloc_new w (.cells #[.int .i64 3, .int .i64 (k : Int), .int .i64 (j : Int), .int .u32 va, .int .u32 ne, .bool dn] 24)
  have HB1 := Lib.hid HB0.out
  generalize w.alloc (.cells #[.int .i64 3, .int .i64 (k : Int), .int .i64 (j : Int), .int .u32 va, .int .u32 ne, .bool dn] 24) = W at *
  have q0 := cell_of hX 0
  have q1 := cell_of hX 1
  have q2 := cell_of hX 2
  have q3 := cell_of hX 3
  simp only [List.getElem?_toArray, List.getElem?_cons_zero, List.getElem?_cons_succ] at q0 q1 q2 q3
  have hxl := (Array.getElem?_eq_some_iff.1 hX).1
  have hbl := (HH.out.lt b (.inl rfl)).2
  have c0 := cell_of HH.out.blk 0
  have c1 := cell_of HH.out.blk 1
  simp only [List.getElem?_toArray, List.getElem?_cons_zero, List.getElem?_cons_succ] at c0 c1
  obtain ⟨gB, oB, kB, sd, cp, hvB, _, e0, _, hrow⟩ := HH.out.buf HKK.out
  obtain ⟨gM, oM, kM, hvM, e3, _⟩ := HH.out.mem HJJ.out
  have hgB := (HH.out.lt gB (.inr (.inl (by rw [hvB]; rfl)))).2
  have hgM := (HH.out.lt gM (.inr (.inr (.inl (by rw [hvM]; rfl))))).2
  rw [hvB] at c0
  rw [hvM] at c1
  rw [HL.out] at e0 hrow
  have hkl : (k : Int) < B.length := by have := HKK.out; omega
  have hjl : (j : Int) < M.length := by have := HJJ.out; omega
  have HROW := Lib.hid hrow
  have HE3 := Lib.hid e3
  have C1 := Lib.hid c1
  clear hX hvB hvM hrow e3 c1
  go_wp2_with fail
  refine wp_region_lexA ⟨[], []⟩ (fun x => Below W.heap.size W x) (by kernel_rfl) (by kernel_rfl) (Below.refl _ _).drew ?_
  intro S hto hof hne
  have y0 : ∀ z : Wd S, z.w.cell? ⟨b, 0, none⟩ = some (.slice (some ⟨gB, oB, none⟩) B.length kB) := fun z => ((hto z).cell (p := ⟨b, 0, none⟩) hbl).trans c0
  have y1 : ∀ z : Wd S, z.w.cell? ⟨w.heap.size, 1, none⟩ = some (.int .i64 k) := fun z => ((hto z).cell (p := ⟨w.heap.size, 1, none⟩) hxl).trans q1
  have y2 : ∀ z : Wd S, z.w.cell? ⟨gB, oB + k, none⟩ = some (.slice sd (((j : Int), va) :: L : List (Int × Int)).length cp) := fun z => ((hto z).cell (p := ⟨gB, oB + k, none⟩) hgB).trans e0
  have Hof := Lib.hid hof
  clear hto hof e0 c0
  refine lexW_light 9 (by kernel_rfl) ?_
  simp only [List.take_succ_cons, List.take_zero, List.drop_succ_cons, List.drop_zero]
  repeat (first | go_big_quiet_skip | (go_big_quiet_want; go_big_quiet_op; go_big_quiet_on))
  refine wpQuiet_nil ?_
  refine lexW_done ?_
  clear y0 y1 y2
  have hD : Below W.heap.size W W.drew := (Below.refl _ _).drew
  have HHD := Lib.hid (HH.out.below hD)
  have HSD := Lib.hid (HS.out.below hD)
  have HRD := Lib.hid (HROW.out.below hD)
  have q0 := (hD.cell (p := ⟨w.heap.size, 0, none⟩) hxl).trans q0
  have q1 := (hD.cell (p := ⟨w.heap.size, 1, none⟩) hxl).trans q1
  have q2 := (hD.cell (p := ⟨w.heap.size, 2, none⟩) hxl).trans q2
  have q3 := (hD.cell (p := ⟨w.heap.size, 3, none⟩) hxl).trans q3
  have d1 := Lib.hid ((hD.cell (p := ⟨b, 1, none⟩) hbl).trans C1.out)
  have d3 := Lib.hid ((hD.cell (p := ⟨gM, oM + j, none⟩) hgM).trans HE3.out)
  have HBW := Lib.hid (HB1.out.trans (hD.mono HB1.out.size))
  have hxl := Nat.lt_of_lt_of_le hxl hD.size
  have hbl := Nat.lt_of_lt_of_le hbl hD.size
  have hgM := Nat.lt_of_lt_of_le hgM hD.size
  generalize W.drew = W2 at *
  clear hD
  obtain ⟨gw, ow, cw, he, _, _, hgw, hcc⟩ := HRD.out.form (by simp)
  simp only [Value.slice.injEq] at he
  obtain ⟨rfl, _, rfl⟩ := he
  have f1 := hcc 0 (.int .i64 (j : Int)) rfl
  have f2 := hcc 1 (.int .u32 va) rfl
  rw [Nat.add_zero] at f1
  have hl0 : (((((j : Int), va) :: L).length : Int) == 0) = false := by simp only [List.length_cons, beq_eq_false_iff_ne]; omega
  have hl1 : (0 : Int) < (((j : Int), va) :: L).length := by simp only [List.length_cons]; omega
  have hl2 : 0 < (((j : Int), va) :: L).length := by simp only [List.length_cons]; omega
  clear hcc
  generalize (((j : Int), va) :: L).length = len at *
  go_wp2_with fail
  refine wp_region_lexA ⟨[], []⟩ (fun x => Below W2.heap.size W2 x) (by kernel_rfl) (by kernel_rfl) (Below.refl _ _).drew ?_
  intro S hto hof hne
  have y1 : ∀ z : Wd S, z.w.cell? ⟨gw, ow, none⟩ = some (.int .i64 (j : Int)) := fun z => ((hto z).cell (p := ⟨gw, ow, none⟩) hgw).trans f1
  have y2 : ∀ z : Wd S, z.w.cell? ⟨gw, ow + 1, none⟩ = some (.int .u32 va) := fun z => ((hto z).cell (p := ⟨gw, ow + 1, none⟩) hgw).trans f2
  have y3 : ∀ z : Wd S, z.w.cell? ⟨w.heap.size, 3, none⟩ = some (.int .u32 va) := fun z => ((hto z).cell (p := ⟨w.heap.size, 3, none⟩) hxl).trans q3
  have Hof := Lib.hid hof
  clear hto hof f1 f2
  refine lexW_light 8 (by kernel_rfl) ?_
  simp only [List.take_succ_cons, List.take_zero, List.drop_succ_cons, List.drop_zero]
  repeat (first | go_big_quiet_skip | (go_big_quiet_want; go_big_quiet_op; go_big_quiet_on))
  refine wpQuiet_nil ?_
  refine lexW_done ?_
  clear y1 y2 y3
  go_wp2_with fail
  go_ret
  exact ⟨rfl, HBW.out.drew⟩

set_option maxRecDepth 100000 in
set_option maxHeartbeats 4000000 in
theorem refused_cas_full (A : Nat → Addr) (lo b : Nat) (vB vM : Value) (vs : List Value) (B : Bufs) (M : List Int) (k j : Nat) (x : Int × Int) (L : List (Int × Int)) (va ne : Int) (dn : Bool) (w : World) (hs : SentAt w A) (h : MdAt tyP w lo b vB vM vs B M) (hk : k < B.length) (hj : j < M.length)
    (hL : B.getD k [] = x :: L) :
    Calls Tryd.prog 37 #[.pointer (some ⟨b, 0, none⟩), .agg #[.int .i64 4, .int .i64 (k : Int), .int .i64 (j : Int), .int .u32 va, .int .u32 ne, .bool dn]] w fun ev w' => ev = .returned ((ErrT.sent 8).val A) ∧ Below w.heap.size w w' := by
  have hb0 : Below w.heap.size w (w.alloc (.cells #[.int .i64 4, .int .i64 (k : Int), .int .i64 (j : Int), .int .u32 va, .int .u32 ne, .bool dn] 24)) := (Below.refl _ _).alloc (Nat.le_refl _) _
  have HS := Lib.hid (hs.below hb0)
  have HH := Lib.hid (h.below hb0)
  have HB0 := Lib.hid hb0
  have HK := Lib.hid (show okC B k ∧ okA M (j : Int) from ⟨⟨by omega, by omega⟩, ⟨by omega, by omega⟩⟩)
  have HKK := Lib.hid hk
  have HJJ := Lib.hid hj
  have HL := Lib.hid hL
  clear hb0 h hs hk hj hL
  go_enter Tryd.func37, Tryd.ntmps37
  go_wp2_with fail
  refine (known_c lo b vB vM vs B M k (j : Int) _ HH.out).mono ?_
  rintro ev w' ⟨rfl, hww⟩
  obtain rfl := hww
  rw [decide_eq_true HK.out]
  have hX := heap_alloc_new w (.cells #[.int .i64 4, .int .i64 (k : Int), .int .i64 (j : Int), .int .u32 va, .int .u32 ne, .bool dn] 24)
  have HB1 := Lib.hid HB0.out
  generalize w.alloc (.cells #[.int .i64 4, .int .i64 (k : Int), .int .i64 (j : Int), .int .u32 va, .int .u32 ne, .bool dn] 24) = W at *
  have q0 := cell_of hX 0
  have q1 := cell_of hX 1
  have q2 := cell_of hX 2
  have q3 := cell_of hX 3
  simp only [List.getElem?_toArray, List.getElem?_cons_zero, List.getElem?_cons_succ] at q0 q1 q2 q3
  have hxl := (Array.getElem?_eq_some_iff.1 hX).1
  have hbl := (HH.out.lt b (.inl rfl)).2
  have c0 := cell_of HH.out.blk 0
  have c1 := cell_of HH.out.blk 1
  simp only [List.getElem?_toArray, List.getElem?_cons_zero, List.getElem?_cons_succ] at c0 c1
  obtain ⟨gB, oB, kB, sd, cp, hvB, _, e0, _, hrow⟩ := HH.out.buf HKK.out
  obtain ⟨gM, oM, kM, hvM, e3, _⟩ := HH.out.mem HJJ.out
  have hgB := (HH.out.lt gB (.inr (.inl (by rw [hvB]; rfl)))).2
  have hgM := (HH.out.lt gM (.inr (.inr (.inl (by rw [hvM]; rfl))))).2
  rw [hvB] at c0
  rw [hvM] at c1
  rw [HL.out] at e0 hrow
  have hkl : (k : Int) < B.length := by have := HKK.out; omega
  have hjl : (j : Int) < M.length := by have := HJJ.out; omega
  have HROW := Lib.hid hrow
  have HE3 := Lib.hid e3
  have C1 := Lib.hid c1
  clear hX hvB hvM hrow e3 c1
  go_wp2_with fail
  refine wp_region_lexA ⟨[], []⟩ (fun x => Below W.heap.size W x) (by kernel_rfl) (by kernel_rfl) (Below.refl _ _).drew ?_
  intro S hto hof hne
  have y0 : ∀ z : Wd S, z.w.cell? ⟨b, 0, none⟩ = some (.slice (some ⟨gB, oB, none⟩) B.length kB) := fun z => ((hto z).cell (p := ⟨b, 0, none⟩) hbl).trans c0
  have y1 : ∀ z : Wd S, z.w.cell? ⟨w.heap.size, 1, none⟩ = some (.int .i64 k) := fun z => ((hto z).cell (p := ⟨w.heap.size, 1, none⟩) hxl).trans q1
  have y2 : ∀ z : Wd S, z.w.cell? ⟨gB, oB + k, none⟩ = some (.slice sd (x :: L : List (Int × Int)).length cp) := fun z => ((hto z).cell (p := ⟨gB, oB + k, none⟩) hgB).trans e0
  have Hof := Lib.hid hof
  clear hto hof e0 c0
  refine lexW_light 9 (by kernel_rfl) ?_
  simp only [List.take_succ_cons, List.take_zero, List.drop_succ_cons, List.drop_zero]
  repeat (first | go_big_quiet_skip | (go_big_quiet_want; go_big_quiet_op; go_big_quiet_on))
  refine wpQuiet_nil ?_
  refine lexW_done ?_
  clear y0 y1 y2
  have hD : Below W.heap.size W W.drew := (Below.refl _ _).drew
  have HHD := Lib.hid (HH.out.below hD)
  have HSD := Lib.hid (HS.out.below hD)
  have HRD := Lib.hid (HROW.out.below hD)
  have q0 := (hD.cell (p := ⟨w.heap.size, 0, none⟩) hxl).trans q0
  have q1 := (hD.cell (p := ⟨w.heap.size, 1, none⟩) hxl).trans q1
  have q2 := (hD.cell (p := ⟨w.heap.size, 2, none⟩) hxl).trans q2
  have q3 := (hD.cell (p := ⟨w.heap.size, 3, none⟩) hxl).trans q3
  have d1 := Lib.hid ((hD.cell (p := ⟨b, 1, none⟩) hbl).trans C1.out)
  have d3 := Lib.hid ((hD.cell (p := ⟨gM, oM + j, none⟩) hgM).trans HE3.out)
  have HBW := Lib.hid (HB1.out.trans (hD.mono HB1.out.size))
  have hxl := Nat.lt_of_lt_of_le hxl hD.size
  have hbl := Nat.lt_of_lt_of_le hbl hD.size
  have hgM := Nat.lt_of_lt_of_le hgM hD.size
  generalize W.drew = W2 at *
  clear hD
  have hl0 : ((L.length : Int) + 1 == 0) = false := by simp only [beq_eq_false_iff_ne]; omega
  have hl1 : 0 < L.length + 1 := by omega
  simp only [List.length_cons] at *
  go_wp2_with fail
  refine wp_region_lexA ⟨[], []⟩ (fun x => Below W2.heap.size W2 x) (by kernel_rfl) (by kernel_rfl) (Below.refl _ _).drew ?_
  intro S hto hof hne
  have Hof := Lib.hid hof
  clear hto hof
  refine lexW_light 15 (by kernel_rfl) ?_
  simp only [List.take_succ_cons, List.take_zero, List.drop_succ_cons, List.drop_zero]
  repeat (first | go_big_quiet_skip | (go_big_quiet_want; go_big_quiet_op; go_big_quiet_on))
  refine wpQuiet_nil ?_
  refine lexW_done ?_
  have hgl := (HSD.out.below (Below.refl _ _).drew).glob 8 (by omega)
  simp only [gnum] at hgl
  go_wp2_with fail
  go_ret
  exact ⟨rfl, HBW.out.drew⟩

set_option maxRecDepth 100000 in
set_option maxHeartbeats 4000000 in
theorem refused_cas_no (A : Nat → Addr) (lo b : Nat) (vB vM : Value) (vs : List Value) (B : Bufs) (M : List Int) (k j : Nat) (m : Int) (va ne : Int) (dn : Bool) (w : World) (hs : SentAt w A) (h : MdAt tyP w lo b vB vM vs B M) (hk : k < B.length) (hj : j < M.length)
    (hL : B.getD k [] = []) (hm : M.getD j 0 = m) (hx : m ≠ va) :
    Calls Tryd.prog 37 #[.pointer (some ⟨b, 0, none⟩), .agg #[.int .i64 4, .int .i64 (k : Int), .int .i64 (j : Int), .int .u32 va, .int .u32 ne, .bool dn]] w fun ev w' => ev = .returned ((ErrT.sent 9).val A) ∧ Below w.heap.size w w' := by
  have hb0 : Below w.heap.size w (w.alloc (.cells #[.int .i64 4, .int .i64 (k : Int), .int .i64 (j : Int), .int .u32 va, .int .u32 ne, .bool dn] 24)) := (Below.refl _ _).alloc (Nat.le_refl _) _
  have HS := Lib.hid (hs.below hb0)
  have HH := Lib.hid (h.below hb0)
  have HB0 := Lib.hid hb0
  have HK := Lib.hid (show okC B k ∧ okA M (j : Int) from ⟨⟨by omega, by omega⟩, ⟨by omega, by omega⟩⟩)
  have HKK := Lib.hid hk
  have HJJ := Lib.hid hj
  have HL := Lib.hid hL
  clear hb0 h hs hk hj hL
  go_enter Tryd.func37, Tryd.ntmps37
  go_wp2_with fail
  refine (known_c lo b vB vM vs B M k (j : Int) _ HH.out).mono ?_
  rintro ev w' ⟨rfl, hww⟩
  obtain rfl := hww
  rw [decide_eq_true HK.out]
  have hX := heap_alloc_new w (.cells #[.int .i64 4, .int .i64 (k : Int), .int .i64 (j : Int), .int .u32 va, .int .u32 ne, .bool dn] 24)
  have HB1 := Lib.hid HB0.out
  generalize w.alloc (.cells #[.int .i64 4, .int .i64 (k : Int), .int .i64 (j : Int), .int .u32 va, .int .u32 ne, .bool dn] 24) = W at *
  have q0 := cell_of hX 0
  have q1 := cell_of hX 1
  have q2 := cell_of hX 2
  have q3 := cell_of hX 3
  simp only [List.getElem?_toArray, List.getElem?_cons_zero, List.getElem?_cons_succ] at q0 q1 q2 q3
  have hxl := (Array.getElem?_eq_some_iff.1 hX).1
  have hbl := (HH.out.lt b (.inl rfl)).2
  have c0 := cell_of HH.out.blk 0
  have c1 := cell_of HH.out.blk 1
  simp only [List.getElem?_toArray, List.getElem?_cons_zero, List.getElem?_cons_succ] at c0 c1
  obtain ⟨gB, oB, kB, sd, cp, hvB, _, e0, _, hrow⟩ := HH.out.buf HKK.out
  obtain ⟨gM, oM, kM, hvM, e3, _⟩ := HH.out.mem HJJ.out
  have hgB := (HH.out.lt gB (.inr (.inl (by rw [hvB]; rfl)))).2
  have hgM := (HH.out.lt gM (.inr (.inr (.inl (by rw [hvM]; rfl))))).2
  rw [hvB] at c0
  rw [hvM] at c1
  rw [HL.out] at e0 hrow
  have hkl : (k : Int) < B.length := by have := HKK.out; omega
  have hjl : (j : Int) < M.length := by have := HJJ.out; omega
  have HROW := Lib.hid hrow
  have HE3 := Lib.hid e3
  have C1 := Lib.hid c1
  clear hX hvB hvM hrow e3 c1
  go_wp2_with fail
  refine wp_region_lexA ⟨[], []⟩ (fun x => Below W.heap.size W x) (by kernel_rfl) (by kernel_rfl) (Below.refl _ _).drew ?_
  intro S hto hof hne
  have y0 : ∀ z : Wd S, z.w.cell? ⟨b, 0, none⟩ = some (.slice (some ⟨gB, oB, none⟩) B.length kB) := fun z => ((hto z).cell (p := ⟨b, 0, none⟩) hbl).trans c0
  have y1 : ∀ z : Wd S, z.w.cell? ⟨w.heap.size, 1, none⟩ = some (.int .i64 k) := fun z => ((hto z).cell (p := ⟨w.heap.size, 1, none⟩) hxl).trans q1
  have y2 : ∀ z : Wd S, z.w.cell? ⟨gB, oB + k, none⟩ = some (.slice sd ([] : List (Int × Int)).length cp) := fun z => ((hto z).cell (p := ⟨gB, oB + k, none⟩) hgB).trans e0
  have Hof := Lib.hid hof
  clear hto hof e0 c0
  refine lexW_light 9 (by kernel_rfl) ?_
  simp only [List.take_succ_cons, List.take_zero, List.drop_succ_cons, List.drop_zero]
  repeat (first | go_big_quiet_skip | (go_big_quiet_want; go_big_quiet_op; go_big_quiet_on))
  refine wpQuiet_nil ?_
  refine lexW_done ?_
  clear y0 y1 y2
  have hD : Below W.heap.size W W.drew := (Below.refl _ _).drew
  have HHD := Lib.hid (HH.out.below hD)
  have HSD := Lib.hid (HS.out.below hD)
  have HRD := Lib.hid (HROW.out.below hD)
  have q0 := (hD.cell (p := ⟨w.heap.size, 0, none⟩) hxl).trans q0
  have q1 := (hD.cell (p := ⟨w.heap.size, 1, none⟩) hxl).trans q1
  have q2 := (hD.cell (p := ⟨w.heap.size, 2, none⟩) hxl).trans q2
  have q3 := (hD.cell (p := ⟨w.heap.size, 3, none⟩) hxl).trans q3
  have d1 := Lib.hid ((hD.cell (p := ⟨b, 1, none⟩) hbl).trans C1.out)
  have d3 := Lib.hid ((hD.cell (p := ⟨gM, oM + j, none⟩) hgM).trans HE3.out)
  have HBW := Lib.hid (HB1.out.trans (hD.mono HB1.out.size))
  have hxl := Nat.lt_of_lt_of_le hxl hD.size
  have hbl := Nat.lt_of_lt_of_le hbl hD.size
  have hgM := Nat.lt_of_lt_of_le hgM hD.size
  generalize W.drew = W2 at *
  clear hD
  have HM := Lib.hid hm
  have gx : (m != va) = true := by simpa using hx
  clear hm hx
  simp only [List.length_nil] at *
  go_wp2_with fail
  refine wp_region_lexA ⟨[], []⟩ (fun x => Below W2.heap.size W2 x) (by kernel_rfl) (by kernel_rfl) (Below.refl _ _).drew ?_
  intro S hto hof hne
  have y1 : ∀ z : Wd S, z.w.cell? ⟨b, 1, none⟩ = some (.slice (some ⟨gM, oM, none⟩) M.length kM) := fun z => ((hto z).cell (p := ⟨b, 1, none⟩) hbl).trans d1.out
  have y2 : ∀ z : Wd S, z.w.cell? ⟨gM, oM + j, none⟩ = some (.int .u32 (M.getD j 0)) := fun z => ((hto z).cell (p := ⟨gM, oM + j, none⟩) hgM).trans d3.out
  have y3 : ∀ z : Wd S, z.w.cell? ⟨w.heap.size, 3, none⟩ = some (.int .u32 va) := fun z => ((hto z).cell (p := ⟨w.heap.size, 3, none⟩) hxl).trans q3
  rw [HM.out] at y2
  have Hof := Lib.hid hof
  clear hto hof
  refine lexW_light 15 (by kernel_rfl) ?_
  simp only [List.take_succ_cons, List.take_zero, List.drop_succ_cons, List.drop_zero]
  repeat (first | go_big_quiet_skip | (go_big_quiet_want; go_big_quiet_op; go_big_quiet_on))
  refine wpQuiet_nil ?_
  refine lexW_done ?_
  clear y1 y2 y3
  have hgl := (HSD.out.below (Below.refl _ _).drew).glob 9 (by omega)
  simp only [gnum] at hgl
  go_wp2_with fail
  go_ret
  exact ⟨rfl, HBW.out.drew⟩

set_option maxRecDepth 100000 in
set_option maxHeartbeats 4000000 in
theorem refused_cas_ok (A : Nat → Addr) (lo b : Nat) (vB vM : Value) (vs : List Value) (B : Bufs) (M : List Int) (k j : Nat) (va ne : Int) (dn : Bool) (w : World) (hs : SentAt w A) (h : MdAt tyP w lo b vB vM vs B M) (hk : k < B.length) (hj : j < M.length)
    (hL : B.getD k [] = []) (hm : M.getD j 0 = va) :
    Calls Tryd.prog 37 #[.pointer (some ⟨b, 0, none⟩), .agg #[.int .i64 4, .int .i64 (k : Int), .int .i64 (j : Int), .int .u32 va, .int .u32 ne, .bool dn]] w fun ev w' => ev = .returned (ErrT.nil.val A) ∧ Below w.heap.size w w' := by
  have hb0 : Below w.heap.size w (w.alloc (.cells #[.int .i64 4, .int .i64 (k : Int), .int .i64 (j : Int), .int .u32 va, .int .u32 ne, .bool dn] 24)) := (Below.refl _ _).alloc (Nat.le_refl _) _
  have HS := Lib.hid (hs.below hb0)
  have HH := Lib.hid (h.below hb0)
  have HB0 := Lib.hid hb0
  have HK := Lib.hid (show okC B k ∧ okA M (j : Int) from ⟨⟨by omega, by omega⟩, ⟨by omega, by omega⟩⟩)
  have HKK := Lib.hid hk
  have HJJ := Lib.hid hj
  have HL := Lib.hid hL
  clear hb0 h hs hk hj hL
  go_enter Tryd.func37, Tryd.ntmps37
  go_wp2_with fail
  refine (known_c lo b vB vM vs B M k (j : Int) _ HH.out).mono ?_
  rintro ev w' ⟨rfl, hww⟩
  obtain rfl := hww
  rw [decide_eq_true HK.out]
  have hX := heap_alloc_new w (.cells #[.int .i64 4, .int .i64 (k : Int), .int .i64 (j : Int), .int .u32 va, .int .u32 ne, .bool dn] 24)
  have HB1 := Lib.hid HB0.out
  generalize w.alloc (.cells #[.int .i64 4, .int .i64 (k : Int), .int .i64 (j : Int), .int .u32 va, .int .u32 ne, .bool dn] 24) = W at *
  have q0 := cell_of hX 0
  have q1 := cell_of hX 1
  have q2 := cell_of hX 2
  have q3 := cell_of hX 3
  simp only [List.getElem?_toArray, List.getElem?_cons_zero, List.getElem?_cons_succ] at q0 q1 q2 q3
  have hxl := (Array.getElem?_eq_some_iff.1 hX).1
  have hbl := (HH.out.lt b (.inl rfl)).2
  have c0 := cell_of HH.out.blk 0
  have c1 := cell_of HH.out.blk 1
  simp only [List.getElem?_toArray, List.getElem?_cons_zero, List.getElem?_cons_succ] at c0 c1
  obtain ⟨gB, oB, kB, sd, cp, hvB, _, e0, _, hrow⟩ := HH.out.buf HKK.out
  obtain ⟨gM, oM, kM, hvM, e3, _⟩ := HH.out.mem HJJ.out
  have hgB := (HH.out.lt gB (.inr (.inl (by rw [hvB]; rfl)))).2
  have hgM := (HH.out.lt gM (.inr (.inr (.inl (by rw [hvM]; rfl))))).2
  rw [hvB] at c0
  rw [hvM] at c1
  rw [HL.out] at e0 hrow
  have hkl : (k : Int) < B.length := by have := HKK.out; omega
  have hjl : (j : Int) < M.length := by have := HJJ.out; omega
  have HROW := Lib.hid hrow
  have HE3 := Lib.hid e3
  have C1 := Lib.hid c1
  clear hX hvB hvM hrow e3 c1
  go_wp2_with fail
  refine wp_region_lexA ⟨[], []⟩ (fun x => Below W.heap.size W x) (by kernel_rfl) (by kernel_rfl) (Below.refl _ _).drew ?_
  intro S hto hof hne
  have y0 : ∀ z : Wd S, z.w.cell? ⟨b, 0, none⟩ = some (.slice (some ⟨gB, oB, none⟩) B.length kB) := fun z => ((hto z).cell (p := ⟨b, 0, none⟩) hbl).trans c0
  have y1 : ∀ z : Wd S, z.w.cell? ⟨w.heap.size, 1, none⟩ = some (.int .i64 k) := fun z => ((hto z).cell (p := ⟨w.heap.size, 1, none⟩) hxl).trans q1
  have y2 : ∀ z : Wd S, z.w.cell? ⟨gB, oB + k, none⟩ = some (.slice sd ([] : List (Int × Int)).length cp) := fun z => ((hto z).cell (p := ⟨gB, oB + k, none⟩) hgB).trans e0
  have Hof := Lib.hid hof
  clear hto hof e0 c0
  refine lexW_light 9 (by kernel_rfl) ?_
  simp only [List.take_succ_cons, List.take_zero, List.drop_succ_cons, List.drop_zero]
  repeat (first | go_big_quiet_skip | (go_big_quiet_want; go_big_quiet_op; go_big_quiet_on))
  refine wpQuiet_nil ?_
  refine lexW_done ?_
  clear y0 y1 y2
  have hD : Below W.heap.size W W.drew := (Below.refl _ _).drew
  have HHD := Lib.hid (HH.out.below hD)
  have HSD := Lib.hid (HS.out.below hD)
  have HRD := Lib.hid (HROW.out.below hD)
  have q0 := (hD.cell (p := ⟨w.heap.size, 0, none⟩) hxl).trans q0
  have q1 := (hD.cell (p := ⟨w.heap.size, 1, none⟩) hxl).trans q1
  have q2 := (hD.cell (p := ⟨w.heap.size, 2, none⟩) hxl).trans q2
  have q3 := (hD.cell (p := ⟨w.heap.size, 3, none⟩) hxl).trans q3
  have d1 := Lib.hid ((hD.cell (p := ⟨b, 1, none⟩) hbl).trans C1.out)
  have d3 := Lib.hid ((hD.cell (p := ⟨gM, oM + j, none⟩) hgM).trans HE3.out)
  have HBW := Lib.hid (HB1.out.trans (hD.mono HB1.out.size))
  have hxl := Nat.lt_of_lt_of_le hxl hD.size
  have hbl := Nat.lt_of_lt_of_le hbl hD.size
  have hgM := Nat.lt_of_lt_of_le hgM hD.size
  generalize W.drew = W2 at *
  clear hD
  have HM := Lib.hid hm
  have gx : (va != va) = false := by simp
  clear hm
  simp only [List.length_nil] at *
  go_wp2_with fail
  refine wp_region_lexA ⟨[], []⟩ (fun x => Below W2.heap.size W2 x) (by kernel_rfl) (by kernel_rfl) (Below.refl _ _).drew ?_
  intro S hto hof hne
  have y1 : ∀ z : Wd S, z.w.cell? ⟨b, 1, none⟩ = some (.slice (some ⟨gM, oM, none⟩) M.length kM) := fun z => ((hto z).cell (p := ⟨b, 1, none⟩) hbl).trans d1.out
  have y2 : ∀ z : Wd S, z.w.cell? ⟨gM, oM + j, none⟩ = some (.int .u32 (M.getD j 0)) := fun z => ((hto z).cell (p := ⟨gM, oM + j, none⟩) hgM).trans d3.out
  have y3 : ∀ z : Wd S, z.w.cell? ⟨w.heap.size, 3, none⟩ = some (.int .u32 va) := fun z => ((hto z).cell (p := ⟨w.heap.size, 3, none⟩) hxl).trans q3
  rw [HM.out] at y2
  have Hof := Lib.hid hof
  clear hto hof
  refine lexW_light 15 (by kernel_rfl) ?_
  simp only [List.take_succ_cons, List.take_zero, List.drop_succ_cons, List.drop_zero]
  repeat (first | go_big_quiet_skip | (go_big_quiet_want; go_big_quiet_op; go_big_quiet_on))
  refine wpQuiet_nil ?_
  refine lexW_done ?_
  clear y1 y2 y3
  go_wp2_with fail
  go_ret
  exact ⟨rfl, HBW.out.drew⟩

set_option maxRecDepth 100000 in
set_option maxHeartbeats 4000000 in
theorem refused_fence_full (A : Nat → Addr) (lo b : Nat) (vB vM : Value) (vs : List Value) (B : Bufs) (M : List Int) (k j : Nat) (ad : Int) (x : Int × Int) (L : List (Int × Int)) (va ne : Int) (dn : Bool) (w : World) (hs : SentAt w A) (h : MdAt tyP w lo b vB vM vs B M) (hk : k < B.length) (hj : j < M.length)
    (hL : B.getD k [] = x :: L) :
    Calls Tryd.prog 37 #[.pointer (some ⟨b, 0, none⟩), .agg #[.int .i64 5, .int .i64 (k : Int), .int .i64 ad, .int .u32 va, .int .u32 ne, .bool dn]] w fun ev w' => ev = .returned ((ErrT.sent 8).val A) ∧ Below w.heap.size w w' := by
  have hb0 : Below w.heap.size w (w.alloc (.cells #[.int .i64 5, .int .i64 (k : Int), .int .i64 ad, .int .u32 va, .int .u32 ne, .bool dn] 24)) := (Below.refl _ _).alloc (Nat.le_refl _) _
  have HS := Lib.hid (hs.below hb0)
  have HH := Lib.hid (h.below hb0)
  have HB0 := Lib.hid hb0
  have HK := Lib.hid (show okC B k ∧ okA M (0 : Int) from ⟨⟨by omega, by omega⟩, ⟨by omega, by omega⟩⟩)
  have HKK := Lib.hid hk
  have HJJ := Lib.hid hj
  have HL := Lib.hid hL
  clear hb0 h hs hk hj hL
  go_enter Tryd.func37, Tryd.ntmps37
  go_wp2_with fail
  refine (known_c lo b vB vM vs B M k (0 : Int) _ HH.out).mono ?_
  rintro ev w' ⟨rfl, hww⟩
  obtain rfl := hww
  rw [decide_eq_true HK.out]
  have hX := heap_alloc_new w (.cells #[.int .i64 5, .int .i64 (k : Int), .int .i64 ad, .int .u32 va, .int .u32 ne, .bool dn] 24)
  have HB1 := Lib.hid HB0.out
  generalize w.alloc (.cells #[.int .i64 5, .int .i64 (k : Int), .int .i64 ad, .int .u32 va, .int .u32 ne, .bool dn] 24) = W at *
  have q0 := cell_of hX 0
  have q1 := cell_of hX 1
  have q2 := cell_of hX 2
  have q3 := cell_of hX 3
  simp only [List.getElem?_toArray, List.getElem?_cons_zero, List.getElem?_cons_succ] at q0 q1 q2 q3
  have hxl := (Array.getElem?_eq_some_iff.1 hX).1
  have hbl := (HH.out.lt b (.inl rfl)).2
  have c0 := cell_of HH.out.blk 0
  have c1 := cell_of HH.out.blk 1
  simp only [List.getElem?_toArray, List.getElem?_cons_zero, List.getElem?_cons_succ] at c0 c1
  obtain ⟨gB, oB, kB, sd, cp, hvB, _, e0, _, hrow⟩ := HH.out.buf HKK.out
  obtain ⟨gM, oM, kM, hvM, e3, _⟩ := HH.out.mem HJJ.out
  have hgB := (HH.out.lt gB (.inr (.inl (by rw [hvB]; rfl)))).2
  have hgM := (HH.out.lt gM (.inr (.inr (.inl (by rw [hvM]; rfl))))).2
  rw [hvB] at c0
  rw [hvM] at c1
  rw [HL.out] at e0 hrow
  have hkl : (k : Int) < B.length := by have := HKK.out; omega
  have hjl : (j : Int) < M.length := by have := HJJ.out; omega
  have HROW := Lib.hid hrow
  have HE3 := Lib.hid e3
  have C1 := Lib.hid c1
  clear hX hvB hvM hrow e3 c1
  go_wp2_with fail
  refine wp_region_lexA ⟨[], []⟩ (fun x => Below W.heap.size W x) (by kernel_rfl) (by kernel_rfl) (Below.refl _ _).drew ?_
  intro S hto hof hne
  have y0 : ∀ z : Wd S, z.w.cell? ⟨b, 0, none⟩ = some (.slice (some ⟨gB, oB, none⟩) B.length kB) := fun z => ((hto z).cell (p := ⟨b, 0, none⟩) hbl).trans c0
  have y1 : ∀ z : Wd S, z.w.cell? ⟨w.heap.size, 1, none⟩ = some (.int .i64 k) := fun z => ((hto z).cell (p := ⟨w.heap.size, 1, none⟩) hxl).trans q1
  have y2 : ∀ z : Wd S, z.w.cell? ⟨gB, oB + k, none⟩ = some (.slice sd (x :: L : List (Int × Int)).length cp) := fun z => ((hto z).cell (p := ⟨gB, oB + k, none⟩) hgB).trans e0
  have Hof := Lib.hid hof
  clear hto hof e0 c0
  refine lexW_light 9 (by kernel_rfl) ?_
  simp only [List.take_succ_cons, List.take_zero, List.drop_succ_cons, List.drop_zero]
  repeat (first | go_big_quiet_skip | (go_big_quiet_want; go_big_quiet_op; go_big_quiet_on))
  refine wpQuiet_nil ?_
  refine lexW_done ?_
  clear y0 y1 y2
  have hD : Below W.heap.size W W.drew := (Below.refl _ _).drew
  have HHD := Lib.hid (HH.out.below hD)
  have HSD := Lib.hid (HS.out.below hD)
  have HRD := Lib.hid (HROW.out.below hD)
  have q0 := (hD.cell (p := ⟨w.heap.size, 0, none⟩) hxl).trans q0
  have q1 := (hD.cell (p := ⟨w.heap.size, 1, none⟩) hxl).trans q1
  have q2 := (hD.cell (p := ⟨w.heap.size, 2, none⟩) hxl).trans q2
  have q3 := (hD.cell (p := ⟨w.heap.size, 3, none⟩) hxl).trans q3
  have d1 := Lib.hid ((hD.cell (p := ⟨b, 1, none⟩) hbl).trans C1.out)
  have d3 := Lib.hid ((hD.cell (p := ⟨gM, oM + j, none⟩) hgM).trans HE3.out)
  have HBW := Lib.hid (HB1.out.trans (hD.mono HB1.out.size))
  have hxl := Nat.lt_of_lt_of_le hxl hD.size
  have hbl := Nat.lt_of_lt_of_le hbl hD.size
  have hgM := Nat.lt_of_lt_of_le hgM hD.size
  generalize W.drew = W2 at *
  clear hD
  have hl0 : ((L.length : Int) + 1 == 0) = false := by simp only [beq_eq_false_iff_ne]; omega
  have hl1 : 0 < L.length + 1 := by omega
  simp only [List.length_cons] at *
  have hgl := HSD.out.glob 8 (by omega)
  simp only [gnum] at hgl
  go_wp2_with fail
  go_ret
  exact ⟨rfl, HBW.out⟩

set_option maxRecDepth 100000 in
set_option maxHeartbeats 4000000 in
theorem refused_fence_ok (A : Nat → Addr) (lo b : Nat) (vB vM : Value) (vs : List Value) (B : Bufs) (M : List Int) (k j : Nat) (ad : Int) (va ne : Int) (dn : Bool) (w : World) (hs : SentAt w A) (h : MdAt tyP w lo b vB vM vs B M) (hk : k < B.length) (hj : j < M.length)
    (hL : B.getD k [] = []) :
    Calls Tryd.prog 37 #[.pointer (some ⟨b, 0, none⟩), .agg #[.int .i64 5, .int .i64 (k : Int), .int .i64 ad, .int .u32 va, .int .u32 ne, .bool dn]] w fun ev w' => ev = .returned (ErrT.nil.val A) ∧ Below w.heap.size w w' := by
  have hb0 : Below w.heap.size w (w.alloc (.cells #[.int .i64 5, .int .i64 (k : Int), .int .i64 ad, .int .u32 va, .int .u32 ne, .bool dn] 24)) := (Below.refl _ _).alloc (Nat.le_refl _) _
  have HS := Lib.hid (hs.below hb0)
  have HH := Lib.hid (h.below hb0)
  have HB0 := Lib.hid hb0
  have HK := Lib.hid (show okC B k ∧ okA M (0 : Int) from ⟨⟨by omega, by omega⟩, ⟨by omega, by omega⟩⟩)
  have HKK := Lib.hid hk
  have HJJ := Lib.hid hj
  have HL := Lib.hid hL
  clear hb0 h hs hk hj hL
  go_enter Tryd.func37, Tryd.ntmps37
  go_wp2_with fail
  refine (known_c lo b vB vM vs B M k (0 : Int) _ HH.out).mono ?_
  rintro ev w' ⟨rfl, hww⟩
  obtain rfl := hww
  rw [decide_eq_true HK.out]
  have hX := heap_alloc_new w (.cells #[.int .i64 5, .int .i64 (k : Int), .int .i64 ad, .int .u32 va, .int .u32 ne, .bool dn] 24)
  have HB1 := Lib.hid HB0.out
  generalize w.alloc (.cells #[.int .i64 5, .int .i64 (k : Int), .int .i64 ad, .int .u32 va, .int .u32 ne, .bool dn] 24) = W at *
  have q0 := cell_of hX 0
  have q1 := cell_of hX 1
  have q2 := cell_of hX 2
  have q3 := cell_of hX 3
  simp only [List.getElem?_toArray, List.getElem?_cons_zero, List.getElem?_cons_succ] at q0 q1 q2 q3
  have hxl := (Array.getElem?_eq_some_iff.1 hX).1
  have hbl := (HH.out.lt b (.inl rfl)).2
  have c0 := cell_of HH.out.blk 0
  have c1 := cell_of HH.out.blk 1
  simp only [List.getElem?_toArray, List.getElem?_cons_zero, List.getElem?_cons_succ] at c0 c1
  obtain ⟨gB, oB, kB, sd, cp, hvB, _, e0, _, hrow⟩ := HH.out.buf HKK.out
  obtain ⟨gM, oM, kM, hvM, e3, _⟩ := HH.out.mem HJJ.out
  have hgB := (HH.out.lt gB (.inr (.inl (by rw [hvB]; rfl)))).2
  have hgM := (HH.out.lt gM (.inr (.inr (.inl (by rw [hvM]; rfl))))).2
  rw [hvB] at c0
  rw [hvM] at c1
  rw [HL.out] at e0 hrow
  have hkl : (k : Int) < B.length := by have := HKK.out; omega
  have hjl : (j : Int) < M.length := by have := HJJ.out; omega
  have HROW := Lib.hid hrow
  have HE3 := Lib.hid e3
  have C1 := Lib.hid c1
  clear hX hvB hvM hrow e3 c1
  go_wp2_with fail
  refine wp_region_lexA ⟨[], []⟩ (fun x => Below W.heap.size W x) (by kernel_rfl) (by kernel_rfl) (Below.refl _ _).drew ?_
  intro S hto hof hne
  have y0 : ∀ z : Wd S, z.w.cell? ⟨b, 0, none⟩ = some (.slice (some ⟨gB, oB, none⟩) B.length kB) := fun z => ((hto z).cell (p := ⟨b, 0, none⟩) hbl).trans c0
  have y1 : ∀ z : Wd S, z.w.cell? ⟨w.heap.size, 1, none⟩ = some (.int .i64 k) := fun z => ((hto z).cell (p := ⟨w.heap.size, 1, none⟩) hxl).trans q1
  have y2 : ∀ z : Wd S, z.w.cell? ⟨gB, oB + k, none⟩ = some (.slice sd ([] : List (Int × Int)).length cp) := fun z => ((hto z).cell (p := ⟨gB, oB + k, none⟩) hgB).trans e0
  have Hof := Lib.hid hof
  clear hto hof e0 c0
  refine lexW_light 9 (by kernel_rfl) ?_
  simp only [List.take_succ_cons, List.take_zero, List.drop_succ_cons, List.drop_zero]
  repeat (first | go_big_quiet_skip | (go_big_quiet_want; go_big_quiet_op; go_big_quiet_on))
  refine wpQuiet_nil ?_
  refine lexW_done ?_
  clear y0 y1 y2
  have hD : Below W.heap.size W W.drew := (Below.refl _ _).drew
  have HHD := Lib.hid (HH.out.below hD)
  have HSD := Lib.hid (HS.out.below hD)
  have HRD := Lib.hid (HROW.out.below hD)
  have q0 := (hD.cell (p := ⟨w.heap.size, 0, none⟩) hxl).trans q0
  have q1 := (hD.cell (p := ⟨w.heap.size, 1, none⟩) hxl).trans q1
  have q2 := (hD.cell (p := ⟨w.heap.size, 2, none⟩) hxl).trans q2
  have q3 := (hD.cell (p := ⟨w.heap.size, 3, none⟩) hxl).trans q3
  have d1 := Lib.hid ((hD.cell (p := ⟨b, 1, none⟩) hbl).trans C1.out)
  have d3 := Lib.hid ((hD.cell (p := ⟨gM, oM + j, none⟩) hgM).trans HE3.out)
  have HBW := Lib.hid (HB1.out.trans (hD.mono HB1.out.size))
  have hxl := Nat.lt_of_lt_of_le hxl hD.size
  have hbl := Nat.lt_of_lt_of_le hbl hD.size
  have hgM := Nat.lt_of_lt_of_le hgM hD.size
  generalize W.drew = W2 at *
  clear hD
  simp only [List.length_nil] at *
  go_wp2_with fail
  go_ret
  exact ⟨rfl, HBW.out⟩

end Go.Proofs.YtamklohnmbgklaaDoor
