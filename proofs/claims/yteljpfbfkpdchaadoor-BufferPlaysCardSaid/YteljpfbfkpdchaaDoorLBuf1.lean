/- BufferRuns: true; no condition but what a start gives. -/
import Derived.Test.YteljpfbfkpdchaaDoorBuf3
namespace Go.Proofs.YteljpfbfkpdchaaDoor
open Go.RowKit Go.Extern.Stop Go.Stop Go.Extern

theorem BufAt.mods_below {w w' : World} {b B : Nat} {v : Value} {n : Int} {L : List (Int × Int)} (h : BufAt w b v n L) (hm : Mods (bufS b v) w w') (hB : B ≤ b) : Below B w w' :=
  hm.below (by have := h.lt; omega) fun k hk => by
    rcases hk with rfl | hk
    · exact hB
    · have := (h.row.lt k hk).1
      omega
/-- A block that is none of a buffer's own stands when the buffer turns. -/
theorem BufAt.apart {w w' : World} {b k : Nat} {v : Value} {n : Int} {L : List (Int × Int)} (_ : BufAt w b v n L) (hm : Mods (bufS b v) w w') (hk : k < w.heap.size) (hb : k ≠ b) (hv : v.ownBlock ≠ some k) : w'.heap[k]? = w.heap[k]? :=
  hm.block k hk fun h => by
    rcases h with h | h
    · exact hb h
    · exact hv h

set_option maxRecDepth 100000 in
set_option maxHeartbeats 4000000 in
theorem bufferRuns (A : Nat → Addr) (w : World) (hs : SentAt w A) : Calls Tryd.prog 3 #[] w (TruePost w) := by
  go_enter Tryd.func3, Tryd.ntmps3
  go_wp2_with fail
  refine (bnew_ok 2 w (by omega) (by omega)).mono ?_
  rintro ev w1 ⟨rfl, hA1, hB1⟩
  have hs1 := hs.below hB1
  go_wp2_with fail
  refine (bpush_ok A w.heap.size _ 2 1 5 [] w1 hA1 (by omega) (by decide) (by decide)).mono ?_
  rintro ev w2 ⟨rfl, v2, hA2, hM2, hO2⟩
  have hB2 := hB1.trans (hA1.mods_below hM2 (Nat.le_refl _))
  have hs2 := hs.below hB2
  go_wp2_with fail
  refine (bpush_ok A w.heap.size _ 2 1 6 _ w2 hA2 (by omega) (by decide) (by decide)).mono ?_
  rintro ev w3 ⟨rfl, v3, hA3, hM3, hO3⟩
  have hB3 := hB2.trans (hA2.mods_below hM3 (Nat.le_refl _))
  have hs3 := hs.below hB3
  simp only [List.nil_append, List.cons_append] at hA3
  go_wp2_with fail
  refine (bpush_full A w.heap.size _ 2 2 7 _ w3 hs3 hA3 (by omega) (by decide)).mono ?_
  rintro ev w4 ⟨rfl, hb4⟩
  have hA4 := hA3.below hb4
  have hB4 := hB3.trans (hb4.mono hB3.size)
  rw [show pushE 2 [(1, 5), (1, 6)] 2 = .wrap bpT 2 (.sent 5) from rfl]
  have HE := Lib.hid (show (ErrT.wrap bpT 2 (.sent 5)).val A = .iface 63 (.agg #[.string bpT, .int .i64 2, (ErrT.sent 5).val A]) from rfl)
  rw [HE.out]
  go_wp2_with fail
  refine (bforward_c w.heap.size _ 2 1 _ w4 hA4 (by decide)).mono ?_
  rintro ev w' ⟨rfl, rfl⟩
  rw [show fwdF [(1, 5), (1, 6)] 1 = some 6 from rfl]
  go_wp2_with fail
  refine (bhead_c w.heap.size _ 2 _ w4 hA4 (by decide)).mono ?_
  rintro ev w5 ⟨rfl, hb5⟩
  have hA5 := hA4.below hb5
  have hB5 := hB4.trans (hb5.mono hB4.size)
  rw [show headV [(1, 5), (1, 6)] = .agg #[.int .i64 1, .int .u32 5] from rfl]
  clear hM2 hM3 hO2 hO3 hA1 hA2 hA3 hA4 hb4 hb5 hs1 hs2 hs3
  go_wp2_with fail
  have hb6 : Below w5.heap.size w5 (w5.alloc (.cells #[.int .i64 1, .int .u32 5] 32)) := (Below.refl _ _).alloc (Nat.le_refl _) _
  have hX6 : (w5.alloc (.cells #[.int .i64 1, .int .u32 5] 32)).heap[w5.heap.size]? = some (.cells #[.int .i64 1, .int .u32 5] 32) := heap_alloc_new w5 _
  have hz6 : (w5.alloc (.cells #[.int .i64 1, .int .u32 5] 32)).heap.size = w5.heap.size + 1 := by simp
  generalize w5.alloc (.cells #[.int .i64 1, .int .u32 5] 32) = w6 at hb6 hX6 hz6 ⊢
  have hA6 := hA5.below hb6
  have hB6 := hB5.trans (hb6.mono hB5.size)
  refine (bpop_c w.heap.size _ 2 _ w6 hA6 (by decide)).mono ?_
  rintro ev w7 ⟨rfl, v7, hA7, hM7, hO7⟩
  have hB7 := hB6.trans (hA6.mods_below hM7 (Nat.le_refl _))
  have hX7 := (hA6.apart hM7 (k := w5.heap.size) (by omega) (by have := hA5.lt; omega) (fun h => by have := (hA5.row.lt _ h).2; omega)).trans hX6
  have hs7 := hs.below hB7
  rw [show decide (0 < ([(1, 5), (1, 6)] : List (Int × Int)).length) = true from rfl]
  simp only [List.drop_succ_cons, List.drop_zero] at hA7
  clear hA5 hA6 hX6 hz6 hM7 hO7 hb6
  go_wp2_with fail
  refine (bforward_c w.heap.size _ 2 1 _ w7 hA7 (by decide)).mono ?_
  rintro ev w' ⟨rfl, rfl⟩
  rw [show fwdF [(1, 6)] 1 = some 6 from rfl]
  go_wp2_with fail
  rw [← HE.out]
  refine (is_c A (.wrap bpT 2 (.sent 5)) 6 bpT 2 _ hs7 ⟨rfl, by simp [ErrT.wf]⟩ (by omega) (by omega)).mono ?_
  rintro ev w8 ⟨rfl, hb8⟩
  rw [show isK (.wrap bpT 2 (.sent 5)) 6 bpT 2 = true from by simp [isK, ErrT.code], HE.out]
  have hX8 := (hb8.block w5.heap.size (Array.getElem?_eq_some_iff.1 hX7).1).trans hX7
  have c0 := cell_of hX8 0
  have c1 := cell_of hX8 1
  simp only [List.getElem?_toArray, List.getElem?_cons_zero, List.getElem?_cons_succ] at c0 c1
  go_wp2_with fail
  go_ret
  exact ⟨rfl, hB7.trans (hb8.mono hB7.size)⟩

end Go.Proofs.YteljpfbfkpdchaaDoor
