/- ProgRuns: true; no condition but what a start gives. -/
import Derived.Test.YtpljdbcifaeblaaDoorPg5
import Derived.Test.YtpljdbcifaeblaaDoorFop
namespace Go.Proofs.YtpljdbcifaeblaaDoor
open Go.RowKit Go.Extern.Stop Go.Stop Go.Extern

def runP : List OpV := [⟨1, 1, 0, 0⟩, ⟨2, 2, 5, 0⟩, ⟨3, 0, 7, 1⟩, ⟨4, 0, 0, 0⟩]
theorem runP_enc : encP runP = [8, 2, 2, 4, 4, 10, 6, 0, 14, 2, 8] := by
  have h : ∀ u, u < 128 → enc u = [u] := fun u hu => enc_small hu
  simp [encP, encOps, encOp, runP, nmA, nmV, nmO, zig, h]
theorem runP_put : putE 4 runP = .nil := by kernel_rfl
theorem runP_bad : putE 4 [⟨1, 4, 0, 0⟩] = .wrap pgT 0 (.sent 0) := by kernel_rfl
theorem runP_par : parE 4 [2, 2, 8] = .wrap paT 0 (.wrap prT 2 (.sent 3)) := by kernel_rfl
theorem runP_fit : ∀ o ∈ runP, o.fit := by
  intro o ho
  simp only [runP, List.mem_cons, List.not_mem_nil, or_false] at ho
  rcases ho with rfl | rfl | rfl | rfl <;> exact ⟨⟨⟨by decide, by decide⟩, by decide, by decide⟩, ⟨by decide, by decide⟩, by decide, by decide⟩

set_option maxRecDepth 100000 in
set_option maxHeartbeats 8000000 in
theorem progRuns (A : Nat → Addr) (w : World) (hs : SentAt w A) : Calls Tryd.prog 3 #[] w (TruePost w) := by
  have HS := Lib.hid hs
  clear hs
  go_enter Tryd.func3, Tryd.ntmps3
  go_wp2_with fail
  have hb0 : Below w.heap.size w (w.alloc (.cells (flatP runP).toArray 29)) := (Below.refl _ _).alloc (Nat.le_refl _) _
  refine (put_c A _ runP 4 (w.alloc (.cells (flatP runP).toArray 29)) (HS.out.below hb0) (slc_built w _ 4 4 (flatP runP) rfl) runP_fit (by decide)).mono ?_
  rintro ev w1 ⟨u1, rfl, hu1, hb1⟩
  rw [runP_put] at hu1 ⊢
  have hu1 : winRow w1 (w.alloc (.cells (flatP runP).toArray 29)).heap.size 5 1 u1 (encP runP).length (byteV (encP runP)) := hu1
  rw [runP_enc] at hu1
  obtain ⟨a1, c1, rfl⟩ := hu1.len
  have HU1 := Lib.hid hu1.slc
  have HB1 := Lib.hid (hb0.trans (hb1.mono hb0.size))
  clear hu1 hb1 hb0
  rw [show ErrT.nil.val A = .nilIface from rfl]
  go_wp2_with fail
  have hb2 : Below w1.heap.size w1 (w1.alloc (.cells (byteV [2, 2, 8]).toArray 5)) := (Below.refl _ _).alloc (Nat.le_refl _) _
  have HB2 := Lib.hid (HB1.out.trans (hb2.mono HB1.out.size))
  have HU2 := Lib.hid (HU1.out.below hb2)
  clear hb2
  refine (parse_c A _ [2, 2, 8] 4 (w1.alloc (.cells (byteV [2, 2, 8]).toArray 5)) (HS.out.below HB2.out) (slc_built w1 _ 1 3 (byteV [2, 2, 8]) rfl) (by decide) (by decide) (by omega)).mono ?_
  rintro ev w3 ⟨u3, rfl, hu3, hb3⟩
  rw [runP_par] at hu3 ⊢
  have hu3 : u3 = .slice none 0 0 := hu3
  subst hu3
  have HB3 := Lib.hid (HB2.out.trans (hb3.mono HB2.out.size))
  have HU3 := Lib.hid (HU2.out.below hb3)
  clear hb3
  rw [show (ErrT.wrap paT 0 (.wrap prT 2 (.sent 3))).val A = .iface 80 (.agg #[.string paT, .int .i64 0, .iface 80 (.agg #[.string prT, .int .i64 2, .iface 138 (.pointer (some (A 3)))])]) from rfl]
  go_wp2_with fail
  have hb4 : Below w3.heap.size w3 (w3.alloc (.cells (flatP [⟨1, 4, 0, 0⟩]).toArray 29)) := (Below.refl _ _).alloc (Nat.le_refl _) _
  have HB4 := Lib.hid (HB3.out.trans (hb4.mono HB3.out.size))
  have HU4 := Lib.hid (HU3.out.below hb4)
  clear hb4
  refine (put_c A _ [⟨1, 4, 0, 0⟩] 4 (w3.alloc (.cells (flatP [⟨1, 4, 0, 0⟩]).toArray 29)) (HS.out.below HB4.out) (slc_built w3 _ 4 1 (flatP [⟨1, 4, 0, 0⟩]) rfl) (fun o ho => by simp only [List.mem_singleton] at ho; subst ho; exact ⟨⟨⟨by decide, by decide⟩, by decide, by decide⟩, ⟨by decide, by decide⟩, by decide, by decide⟩) (by decide)).mono ?_
  rintro ev w5 ⟨u5, rfl, hu5, hb5⟩
  rw [runP_bad] at hu5 ⊢
  have hu5 : u5 = .slice none 0 0 := hu5
  subst hu5
  have HB5 := Lib.hid (HB4.out.trans (hb5.mono HB4.out.size))
  have HU5 := Lib.hid (HU4.out.below hb5)
  clear hb5
  rw [show (ErrT.wrap pgT 0 (.sent 0)).val A = .iface 80 (.agg #[.string pgT, .int .i64 0, .iface 138 (.pointer (some (A 0)))]) from rfl]
  go_wp2_with fail
  have hb6 : Below w5.heap.size w5 (w5.alloc (.cells (byteV [8, 2, 2, 4, 4, 10, 6, 0, 14, 2, 8]).toArray 5)) := (Below.refl _ _).alloc (Nat.le_refl _) _
  refine (sameG_c [8, 2, 2, 4, 4, 10, 6, 0, 14, 2, 8] [8, 2, 2, 4, 4, 10, 6, 0, 14, 2, 8] _ _ (w5.alloc (.cells (byteV [8, 2, 2, 4, 4, 10, 6, 0, 14, 2, 8]).toArray 5)) (HU5.out.below hb6) (slc_built w5 _ 1 11 (byteV [8, 2, 2, 4, 4, 10, 6, 0, 14, 2, 8]) rfl) (by decide) (by decide)).mono ?_
  rintro ev w6 ⟨rfl, hb7⟩
  rw [decide_eq_true rfl]
  have hb67 := hb6.trans (hb7.mono hb6.size)
  have HB6 := Lib.hid (HB5.out.trans (hb67.mono HB5.out.size))
  clear hb6 hb7 hb67
  go_wp2_with fail
  change Calls Tryd.prog _ #[(ErrT.wrap paT 0 (.wrap prT 2 (.sent 3))).val A, .int .i64 (4 : Int), .string paT, .int .i64 0] _ _
  refine (is_c A (.wrap paT 0 (.wrap prT 2 (.sent 3))) 4 paT 0 w6 (HS.out.below HB6.out) ⟨rfl, rfl, show (3 : Nat) < 10 by omega⟩ (by omega) (by omega)).mono ?_
  rintro ev w7 ⟨rfl, hb7⟩
  rw [show isK (.wrap paT 0 (.wrap prT 2 (.sent 3))) 4 paT 0 = true by simp [isK, ErrT.code]]
  have HB7 := Lib.hid (HB6.out.trans (hb7.mono HB6.out.size))
  clear hb7
  go_wp2_with fail
  change Calls Tryd.prog _ #[(ErrT.wrap paT 0 (.wrap prT 2 (.sent 3))).val A] _ _
  refine (ops_c A (.wrap paT 0 (.wrap prT 2 (.sent 3))) w7 ⟨rfl, rfl, show (3 : Nat) < 10 by omega⟩ (by simp [ErrT.depth])).mono ?_
  rintro ev w8 ⟨v8, rfl, hv8, hb8⟩
  have HB8 := Lib.hid (HB7.out.trans (hb8.mono HB7.out.size))
  have HV8 := Lib.hid hv8
  obtain ⟨_, a8, c8, rfl, _⟩ := hv8
  clear hb8
  go_wp2_with fail
  refine (sameS_c [paT, prT] _ _ _ (HV8.out.below ((Below.refl _ _).alloc (Nat.le_refl _) _)) (slc_built w8 _ 1 2 ([paT, prT].map .string) rfl) (by decide)).mono ?_
  rintro ev w9 ⟨rfl, hb9⟩
  have HB9 := Lib.hid ((HB8.out.alloc HB8.out.size _).trans (hb9.mono (HB8.out.alloc HB8.out.size _).size))
  clear hb9
  go_wp2_with fail
  change Calls Tryd.prog _ #[(ErrT.wrap pgT 0 (.sent 0)).val A, .int .i64 (1 : Int), .string pgT, .int .i64 0] _ _
  refine (is_c A (.wrap pgT 0 (.sent 0)) 1 pgT 0 w9 (HS.out.below HB9.out) ⟨rfl, show (0 : Nat) < 10 by omega⟩ (by omega) (by omega)).mono ?_
  rintro ev w10 ⟨rfl, hb10⟩
  rw [show isK (.wrap pgT 0 (.sent 0)) 1 pgT 0 = true by simp [isK, ErrT.code]]
  go_wp2_with fail
  go_ret
  exact ⟨rfl, HB9.out.trans (hb10.mono HB9.out.size)⟩

end Go.Proofs.YtpljdbcifaeblaaDoor
