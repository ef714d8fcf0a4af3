/- BufferNew: true; no condition but what a start gives. -/
import Derived.Test.YteljpfbfkpdchaaDoorLBuf1
import Derived.Test.YteljpfbfkpdchaaDoorBk
namespace Go.Proofs.YteljpfbfkpdchaaDoor
open Go.RowKit Go.Extern.Stop Go.Stop Go.Extern

set_option maxRecDepth 100000 in
set_option maxHeartbeats 4000000 in
theorem bufferNew (A : Nat → Addr) (z0 z1 x : Int) (w : World) (hs : SentAt w A) (b0 : -9223372036854775808 ≤ z0 ∧ z0 ≤ 9223372036854775807) (b1 : -9223372036854775808 ≤ z1 ∧ z1 ≤ 9223372036854775807) (_b2 : 0 ≤ x ∧ x ≤ 4294967295) :
    Calls Tryd.prog 7 #[.int .i64 z0, .int .i64 z1, .int .u32 x] w (TruePost w) := by
  go_enter Tryd.func7, Tryd.ntmps7
  go_wp2_with fail
  refine (Within_b z0 1 8 _ (by omega) (by omega) (by omega) b0.1 b0.2).mono ?_
  rintro ev w' ⟨rfl, rfl⟩
  have hn := wiF_b (n := z0) (lo := 1) (hi := 8) (by omega)
  generalize wiF z0 1 8 = n at hn ⊢
  go_wp2_with fail
  refine (bnew_ok n _ (by omega) (by omega)).mono ?_
  rintro ev w1 ⟨rfl, hA1, hB1⟩
  go_wp2_with fail
  refine (Within_b z1 0 127 _ (by omega) (by omega) (by omega) b1.1 b1.2).mono ?_
  rintro ev w' ⟨rfl, rfl⟩
  have ha := wiF_b (n := z1) (lo := 0) (hi := 127) (by omega)
  generalize wiF z1 0 127 = a at ha ⊢
  go_wp2_with fail
  refine (bhead_c _ _ n _ _ hA1 (by simp)).mono ?_
  rintro ev w2 ⟨rfl, hb2⟩
  have hA2 := hA1.below hb2
  have hB2 := hB1.trans (hb2.mono hB1.size)
  rw [show headV [] = .agg #[.int .i64 0, .int .u32 0] from rfl]
  clear hA1 hb2
  go_wp2_with fail
  have hb3 : Below w2.heap.size w2 (w2.alloc (.cells #[.int .i64 0, .int .u32 0] 32)) := (Below.refl _ _).alloc (Nat.le_refl _) _
  have hX3 : (w2.alloc (.cells #[.int .i64 0, .int .u32 0] 32)).heap[w2.heap.size]? = some (.cells #[.int .i64 0, .int .u32 0] 32) := heap_alloc_new w2 _
  generalize w2.alloc (.cells #[.int .i64 0, .int .u32 0] 32) = w3 at hb3 hX3 ⊢
  have hA3 := hA2.below hb3
  have hB3 := hB2.trans (hb3.mono hB2.size)
  clear hA2 hb3
  refine (bforward_c _ _ n a _ w3 hA3 (by simp)).mono ?_
  rintro ev w' ⟨rfl, rfl⟩
  rw [show fwdF [] a = none from rfl]
  have c0 := cell_of hX3 0
  have c1 := cell_of hX3 1
  simp only [List.getElem?_toArray, List.getElem?_cons_zero, List.getElem?_cons_succ] at c0 c1
  clear hX3
  go_wp2_with fail
  refine (bpop_c _ _ n _ w3 hA3 (by simp)).mono ?_
  rintro ev w4 ⟨rfl, v4, hA4, hM4, hO4⟩
  have hB4 := hB3.trans (hA3.mods_below hM4 (Nat.le_refl _))
  rw [show decide (0 < ([] : List (Int × Int)).length) = false from rfl]
  simp only [List.drop_nil] at hA4
  clear hA3 hM4 hO4
  go_wp2_with fail
  refine (blist_c _ _ n _ w4 hA4 (by simp)).mono ?_
  rintro ev w5 ⟨u5, rfl, hu5, hb5⟩
  have hA5 := hA4.below hb5
  have hB5 := hB4.trans (hb5.mono hB4.size)
  obtain ⟨ad5, cap5, rfl⟩ := hu5.len
  rw [show ([] : List (Int × Int)).length = 0 from rfl]
  clear hA4 hb5 hu5
  go_wp2_with fail
  refine (bpush_ok A _ _ n a x _ w5 hA5 (by omega) (by simp; omega) (by simp)).mono ?_
  rintro ev w6 ⟨rfl, v6, hA6, hM6, hO6⟩
  have hB6 := hB5.trans (hA5.mods_below hM6 (Nat.le_refl _))
  simp only [List.nil_append] at hA6
  clear hA5 hM6 hO6
  go_wp2_with fail
  refine (bforward_c _ _ n a _ w6 hA6 (by simp)).mono ?_
  rintro ev w' ⟨rfl, rfl⟩
  rw [show fwdF [(a, x)] a = some x from if_pos rfl]
  go_wp2_with fail
  refine (bhead_c _ _ n _ w6 hA6 (by simp)).mono ?_
  rintro ev w7 ⟨rfl, hb7⟩
  have hA7 := hA6.below hb7
  have hB7 := hB6.trans (hb7.mono hB6.size)
  rw [show headV [(a, x)] = .agg #[.int .i64 a, .int .u32 x] from rfl, show decide (0 < ([(a, x)] : List (Int × Int)).length) = true from rfl]
  clear hA6 hb7
  go_wp2_with fail
  have hb8 : Below w7.heap.size w7 (w7.alloc (.cells #[.int .i64 a, .int .u32 x] 32)) := (Below.refl _ _).alloc (Nat.le_refl _) _
  have hX8 : (w7.alloc (.cells #[.int .i64 a, .int .u32 x] 32)).heap[w7.heap.size]? = some (.cells #[.int .i64 a, .int .u32 x] 32) := heap_alloc_new w7 _
  have hz8 : (w7.alloc (.cells #[.int .i64 a, .int .u32 x] 32)).heap.size = w7.heap.size + 1 := by simp
  generalize w7.alloc (.cells #[.int .i64 a, .int .u32 x] 32) = w8 at hb8 hX8 hz8 ⊢
  have hA8 := hA7.below hb8
  have hB8 := hB7.trans (hb8.mono hB7.size)
  refine (bpop_c _ _ n _ w8 hA8 (by simp)).mono ?_
  rintro ev w9 ⟨rfl, v9, hA9, hM9, hO9⟩
  have hB9 := hB8.trans (hA8.mods_below hM9 (Nat.le_refl _))
  have hX9 := (hA8.apart hM9 (k := w7.heap.size) (by omega) (by have := hA7.lt; omega) (fun h => by have := (hA7.row.lt _ h).2; omega)).trans hX8
  rw [show decide (0 < ([(a, x)] : List (Int × Int)).length) = true from rfl]
  simp only [List.drop_succ_cons, List.drop_zero] at hA9
  clear hA7 hA8 hX8 hz8 hM9 hO9 hb8
  go_wp2_with fail
  refine (bforward_c _ _ n a _ w9 hA9 (by simp)).mono ?_
  rintro ev w' ⟨rfl, rfl⟩
  rw [show fwdF [] a = none from rfl]
  have c0 := cell_of hX9 0
  have c1 := cell_of hX9 1
  simp only [List.getElem?_toArray, List.getElem?_cons_zero, List.getElem?_cons_succ] at c0 c1
  clear hX9
  go_wp2_with fail
  refine (bpop_c _ _ n _ w9 hA9 (by simp)).mono ?_
  rintro ev w10 ⟨rfl, v10, hA10, hM10, hO10⟩
  have hB10 := hB9.trans (hA9.mods_below hM10 (Nat.le_refl _))
  rw [show decide (0 < ([] : List (Int × Int)).length) = false from rfl]
  have hs10 := hs.below hB10
  go_wp2_with fail
  refine (bufferRuns A _ hs10).mono ?_
  rintro ev w11 ⟨rfl, hb11⟩
  go_wp2_with fail
  go_ret
  exact ⟨rfl, hB10.trans (hb11.mono hB10.size)⟩

end Go.Proofs.YteljpfbfkpdchaaDoor
