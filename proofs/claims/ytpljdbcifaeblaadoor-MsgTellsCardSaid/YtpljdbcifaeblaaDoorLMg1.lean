/- MsgRuns: true; no condition but what a start gives. -/
import Derived.Test.YtpljdbcifaeblaaDoorMg4
import Derived.Test.YtpljdbcifaeblaaDoorPk5
namespace Go.Proofs.YtpljdbcifaeblaaDoor
open Go.RowKit Go.Extern.Stop Go.Stop Go.Extern

def runM : MsgV := ⟨3, 1, 2, 0, 0, 0, 3, 4, 0, 0, 0, 0, false⟩
theorem runM_put : putM runM = [6, 2, 4, 6, 8] := by
  have h : ∀ u, u < 128 → enc u = [u] := fun u hu => enc_small hu
  rw [putM_right (by kernel_rfl)]
  simp [encM, encIf, runM, mgW, mgM, mgS, mg9, mgD, zig, h]
theorem runM_short : tellM [6, 2, 4, 6] = (zeroM, .wrap mtT 0 (.wrap prT 4 (.sent 2))) := by kernel_rfl
theorem runM_form : tellM [26, 2, 4, 0, 0, 6, 0] = (zeroM, .wrap mtT 0 (.sent 3)) := by kernel_rfl
theorem runM_fit : runM.fit := by constructor <;> simp [runM, in64, in32]

set_option maxRecDepth 100000 in
set_option maxHeartbeats 8000000 in
theorem msgRuns (A : Nat → Addr) (w : World) (hs : SentAt w A) : Calls Tryd.prog 9 #[] w (TruePost w) := by
  have HS := Lib.hid hs
  clear hs
  go_enter Tryd.func9, Tryd.ntmps9
  go_wp2_with fail
  refine (mput_c runM w runM_fit).mono ?_
  rintro ev w1 ⟨u1, rfl, hu1, hb1⟩
  rw [runM_put] at hu1
  obtain ⟨a1, c1, rfl⟩ := hu1.len
  have HU1 := Lib.hid hu1.slc
  have HB1 := Lib.hid hb1
  clear hu1 hb1
  go_wp2_with fail
  have hb2 : Below w1.heap.size w1 (w1.alloc (.cells (byteV [6, 2, 4, 6]).toArray 5)) := (Below.refl _ _).alloc (Nat.le_refl _) _
  have HB2 := Lib.hid (HB1.out.trans (hb2.mono HB1.out.size))
  have HU2 := Lib.hid (HU1.out.below hb2)
  clear hb2
  refine (mget_c A _ [6, 2, 4, 6] (w1.alloc (.cells (byteV [6, 2, 4, 6]).toArray 5)) (HS.out.below HB2.out) (slc_built w1 _ 1 4 (byteV [6, 2, 4, 6]) rfl) (by decide) (by decide)).mono ?_
  rintro ev w3 ⟨rfl, hb3⟩
  rw [runM_short]
  have HB3 := Lib.hid (HB2.out.trans (hb3.mono HB2.out.size))
  have HU3 := Lib.hid (HU2.out.below hb3)
  clear hb3
  simp only [zeroM, MsgV.v]
  rw [show (ErrT.wrap mtT 0 (.wrap prT 4 (.sent 2))).val A = .iface 80 (.agg #[.string mtT, .int .i64 0, .iface 80 (.agg #[.string prT, .int .i64 4, .iface 138 (.pointer (some (A 2)))])]) from rfl]
  go_wp2_with fail
  have hs4 : (w3.alloc (.cells #[.int .i64 0, .int .i64 0, .int .i64 0, .int .i64 0, .int .i64 0, .int .i64 0, .int .i64 0, .int .u32 0, .int .u32 0, .int .u32 0, .int .u32 0, .int .u32 0, .bool false] 54)).heap.size = w3.heap.size + 1 := by simp
  have hz4 : Below w3.heap.size w3 (w3.alloc (.cells #[.int .i64 0, .int .i64 0, .int .i64 0, .int .i64 0, .int .i64 0, .int .i64 0, .int .i64 0, .int .u32 0, .int .u32 0, .int .u32 0, .int .u32 0, .int .u32 0, .bool false] 54)) := (Below.refl _ _).alloc (Nat.le_refl _) _
  rw [← hs4]
  generalize w3.alloc (.cells #[.int .i64 0, .int .i64 0, .int .i64 0, .int .i64 0, .int .i64 0, .int .i64 0, .int .i64 0, .int .u32 0, .int .u32 0, .int .u32 0, .int .u32 0, .int .u32 0, .bool false] 54) = x4 at *
  clear hs4
  have hb4 : Below w3.heap.size w3 (x4.alloc (.cells (byteV [26, 2, 4, 0, 0, 6, 0]).toArray 5)) := hz4.alloc hz4.size _
  clear hz4
  have HB4 := Lib.hid (HB3.out.trans (hb4.mono HB3.out.size))
  have HU4 := Lib.hid (HU3.out.below hb4)
  clear hb4
  refine (mget_c A _ [26, 2, 4, 0, 0, 6, 0] (x4.alloc (.cells (byteV [26, 2, 4, 0, 0, 6, 0]).toArray 5)) (HS.out.below HB4.out) (slc_built _ _ 1 7 (byteV [26, 2, 4, 0, 0, 6, 0]) rfl) (by decide) (by decide)).mono ?_
  rintro ev w5 ⟨rfl, hb5⟩
  rw [runM_form]
  have HB5 := Lib.hid (HB4.out.trans (hb5.mono HB4.out.size))
  have HU5 := Lib.hid (HU4.out.below hb5)
  clear hb5
  simp only [zeroM, MsgV.v]
  rw [show (ErrT.wrap mtT 0 (.sent 3)).val A = .iface 80 (.agg #[.string mtT, .int .i64 0, .iface 138 (.pointer (some (A 3)))]) from rfl]
  go_wp2_with fail
  have hs6 : (w5.alloc (.cells #[.int .i64 0, .int .i64 0, .int .i64 0, .int .i64 0, .int .i64 0, .int .i64 0, .int .i64 0, .int .u32 0, .int .u32 0, .int .u32 0, .int .u32 0, .int .u32 0, .bool false] 54)).heap.size = w5.heap.size + 1 := by simp
  have hz6 : Below w5.heap.size w5 (w5.alloc (.cells #[.int .i64 0, .int .i64 0, .int .i64 0, .int .i64 0, .int .i64 0, .int .i64 0, .int .i64 0, .int .u32 0, .int .u32 0, .int .u32 0, .int .u32 0, .int .u32 0, .bool false] 54)) := (Below.refl _ _).alloc (Nat.le_refl _) _
  rw [← hs6]
  generalize w5.alloc (.cells #[.int .i64 0, .int .i64 0, .int .i64 0, .int .i64 0, .int .i64 0, .int .i64 0, .int .i64 0, .int .u32 0, .int .u32 0, .int .u32 0, .int .u32 0, .int .u32 0, .bool false] 54) = x6 at *
  clear hs6
  have hb6 : Below w5.heap.size w5 (x6.alloc (.cells (byteV [6, 2, 4, 6, 8]).toArray 5)) := hz6.alloc hz6.size _
  clear hz6
  refine (sameG_c [6, 2, 4, 6, 8] [6, 2, 4, 6, 8] _ _ (x6.alloc (.cells (byteV [6, 2, 4, 6, 8]).toArray 5)) (HU5.out.below hb6) (slc_built _ _ 1 5 (byteV [6, 2, 4, 6, 8]) rfl) (by decide) (by decide)).mono ?_
  rintro ev w6 ⟨rfl, hb7⟩
  rw [decide_eq_true rfl]
  have hb67 := hb6.trans (hb7.mono hb6.size)
  have HB6 := Lib.hid (HB5.out.trans (hb67.mono HB5.out.size))
  clear hb6 hb7 hb67
  go_wp2_with fail
  change Calls Tryd.prog _ #[(ErrT.wrap mtT 0 (.wrap prT 4 (.sent 2))).val A, .int .i64 (3 : Int), .string mtT, .int .i64 0] _ _
  refine (is_c A (.wrap mtT 0 (.wrap prT 4 (.sent 2))) 3 mtT 0 w6 (HS.out.below HB6.out) ⟨rfl, rfl, show (2 : Nat) < 10 by omega⟩ (by omega) (by omega)).mono ?_
  rintro ev w7 ⟨rfl, hb7⟩
  rw [show isK (.wrap mtT 0 (.wrap prT 4 (.sent 2))) 3 mtT 0 = true by simp [isK, ErrT.code]]
  have HB7 := Lib.hid (HB6.out.trans (hb7.mono HB6.out.size))
  clear hb7
  go_wp2_with fail
  change Calls Tryd.prog _ #[(ErrT.wrap mtT 0 (.sent 3)).val A, .int .i64 (4 : Int), .string mtT, .int .i64 0] _ _
  refine (is_c A (.wrap mtT 0 (.sent 3)) 4 mtT 0 w7 (HS.out.below HB7.out) ⟨rfl, show (3 : Nat) < 10 by omega⟩ (by omega) (by omega)).mono ?_
  rintro ev w8 ⟨rfl, hb8⟩
  rw [show isK (.wrap mtT 0 (.sent 3)) 4 mtT 0 = true by simp [isK, ErrT.code]]
  have HB8 := Lib.hid (HB7.out.trans (hb8.mono HB7.out.size))
  clear hb8
  go_wp2_with fail
  go_ret
  exact ⟨rfl, HB8.out⟩

end Go.Proofs.YtpljdbcifaeblaaDoor
