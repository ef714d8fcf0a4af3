/- PackRuns: true; no condition but what a start gives. -/
import Derived.Test.YthmgccakhhggjaaDoorPk4
namespace Go.Proofs.YthmgccakhhggjaaDoor
open Go.RowKit Go.Extern.Stop Go.Stop Go.Extern

theorem slc_lit (w : World) (l : List Nat) : slc (w.alloc (.cells (byteV l).toArray 5)) 1 (.slice (some ⟨w.heap.size, 0, none⟩) l.length l.length) l.length (byteV l) :=
  ⟨by rw [byteV_length, Nat.mul_one], _, _, rfl, fun _ => ⟨w.heap.size, 0, rfl, by simp, fun j u hj => by
    rw [Nat.zero_add, World.cell?_alloc_new]
    simpa using hj⟩⟩
theorem slc_nilB (w : World) : slc w 1 (.slice none 0 0) ([] : List Nat).length (byteV []) := ⟨rfl, none, 0, rfl, fun h => absurd h (by simp)⟩
theorem RdAt.own_lt {w : World} {A : Nat → Addr} {b : Nat} {v : Value} {L : List Nat} {at_ : Nat} {e : ErrT} (h : RdAt w A b v L at_ e) (hn : 0 < L.length) : ∀ g, v.ownBlock = some g → g < w.heap.size := by
  intro g hg
  obtain ⟨_, a, cap, hv, hc⟩ := h.row
  obtain ⟨g2, off, ha, hg2, _⟩ := hc hn
  subst hv
  rw [ha] at hg
  simp only [Value.ownBlock, Option.some.injEq] at hg
  omega
theorem enc_m1 : enc (zig (-1)) = [1] := by
  rw [show zig (-1) = 1 from rfl]
  exact enc_small (by omega)
theorem enc_64 : enc (zig 64) = [128, 1] := by
  rw [show zig 64 = 128 from rfl, enc_more (by omega), show 128 / 128 = 1 from rfl, enc_small (by omega)]
/-- Another reader stands when one turns. -/
theorem RdAt.apart {w w' : World} {A : Nat → Addr} {b b2 : Nat} {v : Value} {L : List Nat} {at_ : Nat} {e : ErrT} (h : RdAt w A b v L at_ e) (hm : Mods (onlyS b2) w w') (hb : b ≠ b2) (hv : ∀ g, v.ownBlock = some g → g ≠ b2) : RdAt w' A b v L at_ e :=
  h.keep hm hb hv
theorem Mods.onlyB {w w' : World} {b B : Nat} (h : Mods (onlyS b) w w') (hB : B ≤ b) (hb : b < w.heap.size) : Below B w w' :=
  h.below (by omega) fun k hk => by
    have : k = b := hk
    omega

set_option maxRecDepth 100000 in
set_option maxHeartbeats 8000000 in
theorem packRuns (A : Nat → Addr) (w : World) (hs : SentAt w A) : Calls Tryd.prog 3 #[] w (TruePost w) := by
  have HS := Lib.hid hs
  clear hs
  go_enter Tryd.func3, Tryd.ntmps3
  go_wp2_with fail
  refine (read_c A _ [2, 128] _ (slc_lit w [2, 128]) (by simp) (by simp)).mono ?_
  rintro ev w1 ⟨b1, v1, rfl, hR1, hb1, ho1, hB1⟩
  have hBw1 : Below w.heap.size w w1 := ((Below.refl w.heap.size w).alloc (Nat.le_refl _) (.cells (byteV [2, 128]).toArray 5)).trans (hB1.mono (by simp))
  have hb1w : w.heap.size < b1 := by simp only [World.size_alloc] at hb1; omega
  have HR1 := Lib.hid hR1
  clear hR1 hB1 ho1 hb1
  go_wp2_with fail
  refine (read_c A _ [10] _ (slc_lit w1 [10]) (by simp) (by simp)).mono ?_
  rintro ev w2 ⟨b2, v2, rfl, hR2, hb2, ho2, hB2⟩
  have hW12 : Below w1.heap.size w1 w2 := ((Below.refl w1.heap.size w1).alloc (Nat.le_refl _) (.cells (byteV [10]).toArray 5)).trans (hB2.mono (by simp))
  have hw1b2 : w1.heap.size < b2 := by simp only [World.size_alloc] at hb2; omega
  have ho1 : ∀ g, v1.ownBlock = some g → g ≠ b2 := fun g hg => by have := HR1.out.own_lt (by simp) g hg; omega
  have hb12 : b1 < b2 := by have := HR1.out.lt; simp only [World.size_alloc] at hb2; omega
  have ho2' : ∀ g, v2.ownBlock = some g → g ≠ b1 := fun g hg => by have := HR1.out.lt; have := ho2 g hg; simp only [World.size_alloc] at this; omega
  have HR12 := Lib.hid (HR1.out.below hW12)
  have HR2 := Lib.hid hR2
  have hBw2 := hBw1.trans (hW12.mono hBw1.size)
  clear hR2 hB2 ho2 hb2 hW12 hBw1
  go_wp2_with fail
  refine (read_c A _ [2] _ (slc_lit w2 [2]) (by simp) (by simp)).mono ?_
  rintro ev w3 ⟨b3, v3, rfl, hR3, hb3, ho3, hB3⟩
  have hW23 : Below w2.heap.size w2 w3 := ((Below.refl w2.heap.size w2).alloc (Nat.le_refl _) (.cells (byteV [2]).toArray 5)).trans (hB3.mono (by simp))
  have hb23 : b2 < b3 := by have := HR2.out.lt; simp only [World.size_alloc] at hb3; omega
  have ho3' : ∀ g, v3.ownBlock = some g → g ≠ b1 ∧ g ≠ b2 := fun g hg => by have := HR2.out.lt; have := ho3 g hg; simp only [World.size_alloc] at this; omega
  have HA3 := Lib.hid (HR12.out.below hW23)
  have HB3 := Lib.hid (HR2.out.below hW23)
  have HC3 := Lib.hid hR3
  have hBw3 := hBw2.trans (hW23.mono hBw2.size)
  clear hR3 hB3 ho3 hb3 hW23 hBw2
  go_wp2_with fail
  refine (rnum_c A b1 v1 [2, 128] 0 .nil w3 (HS.out.below hBw3) HA3.out).mono ?_
  rintro ev w4 ⟨rfl, hA4, hM4⟩
  have hs1 : stepR [2, 128] 0 .nil (fun _ => true) = (1, 1, .nil) := by rfl
  rw [hs1] at hA4 ⊢
  have HA4 := Lib.hid hA4
  have HB4 := Lib.hid (HB3.out.apart hM4 (by omega) ho2')
  have HC4 := Lib.hid (HC3.out.apart hM4 (by omega) (fun g hg => (ho3' g hg).1))
  have hBw4 := hBw3.trans (hM4.onlyB (by omega) HA3.out.lt)
  clear hA4 hM4 hs1 hBw3
  go_wp2_with fail
  refine (rnum_c A b1 v1 [2, 128] 1 .nil w4 (HS.out.below hBw4) HA4.out).mono ?_
  rintro ev w5 ⟨rfl, hA5, hM5⟩
  have hs2 : stepR [2, 128] 1 .nil (fun _ => true) = (0, 1, .wrap prT 1 (.sent 2)) := by rfl
  rw [hs2] at hA5 ⊢
  have HA5 := Lib.hid hA5
  have HB5 := Lib.hid (HB4.out.apart hM5 (by omega) ho2')
  have HC5 := Lib.hid (HC4.out.apart hM5 (by omega) (fun g hg => (ho3' g hg).1))
  have hBw5 := hBw4.trans (hM5.onlyB (by omega) HA4.out.lt)
  clear hA5 hM5 hs2 hBw4
  go_wp2_with fail
  refine (rin_c A b2 v2 [10] 0 .nil 0 4 w5 (HS.out.below hBw5) HB5.out).mono ?_
  rintro ev w6 ⟨rfl, hB6, hM6⟩
  have hs3 : stepR [10] 0 .nil (inOk 0 4) = (0, 0, .wrap prT 0 (.sent 3)) := by rfl
  rw [hs3] at hB6 ⊢
  have HB6 := Lib.hid hB6
  have HA6 := Lib.hid (HA5.out.apart hM6 (by omega) ho1)
  have HC6 := Lib.hid (HC5.out.apart hM6 (by omega) (fun g hg => (ho3' g hg).2))
  have hBw6 := hBw5.trans (hM6.onlyB (by omega) HB5.out.lt)
  clear hB6 hM6 hs3 hBw5
  go_wp2_with fail
  refine (num_c _ [] (-1) w6 (slc_nilB w6) (by omega) (by simp)).mono ?_
  rintro ev w7 ⟨u7, rfl, hu7, hb7⟩
  rw [enc_m1] at hu7
  simp only [List.nil_append] at hu7
  have hs7 := hu7.slc
  obtain ⟨ad7, cap7, rfl⟩ := hu7.len
  have HA7 := Lib.hid (HA6.out.below hb7)
  have HB7 := Lib.hid (HB6.out.below hb7)
  have HC7 := Lib.hid (HC6.out.below hb7)
  have hBw7 := hBw6.trans (hb7.mono hBw6.size)
  have HS7 := Lib.hid hs7
  clear hu7 hs7 hb7 hBw6
  go_wp2_with fail
  have hb8 : Below w7.heap.size w7 (w7.alloc (.cells (byteV [1]).toArray 5)) := (Below.refl _ _).alloc (Nat.le_refl _) _
  refine (sameB_c [1] _ _ _ (HS7.out.below hb8) (slc_lit w7 [1]) (by simp)).mono ?_
  rintro ev w9 ⟨rfl, hb9⟩
  have hb79 := hb8.trans (hb9.mono hb8.size)
  have HA9 := Lib.hid (HA7.out.below hb79)
  have HB9 := Lib.hid (HB7.out.below hb79)
  have HC9 := Lib.hid (HC7.out.below hb79)
  have hBw9 := hBw7.trans (hb79.mono hBw7.size)
  clear hb8 hb9 hb79 hBw7
  go_wp2_with fail
  refine (num_c _ [] 64 w9 (slc_nilB w9) (by omega) (by simp)).mono ?_
  rintro ev w10 ⟨u10, rfl, hu10, hb10⟩
  rw [enc_64] at hu10
  simp only [List.nil_append] at hu10
  have hs10 := hu10.slc
  obtain ⟨ad10, cap10, rfl⟩ := hu10.len
  have HA10 := Lib.hid (HA9.out.below hb10)
  have HB10 := Lib.hid (HB9.out.below hb10)
  have HC10 := Lib.hid (HC9.out.below hb10)
  have hBw10 := hBw9.trans (hb10.mono hBw9.size)
  have HS10 := Lib.hid hs10
  clear hu10 hs10 hb10 hBw9
  go_wp2_with fail
  have hb11 : Below w10.heap.size w10 (w10.alloc (.cells (byteV [128, 1]).toArray 5)) := (Below.refl _ _).alloc (Nat.le_refl _) _
  refine (sameB_c [128, 1] _ _ _ (HS10.out.below hb11) (slc_lit w10 [128, 1]) (by simp)).mono ?_
  rintro ev w12 ⟨rfl, hb12'⟩
  have hb1012 := hb11.trans (hb12'.mono hb11.size)
  have HA12 := Lib.hid (HA10.out.below hb1012)
  have HB12 := Lib.hid (HB10.out.below hb1012)
  have HC12 := Lib.hid (HC10.out.below hb1012)
  have hBw12 := hBw10.trans (hb1012.mono hBw10.size)
  clear hb11 hb12' hb1012 hBw10
  go_wp2_with fail
  refine (wrong_c A b1 v1 _ _ _ w12 HA12.out).mono ?_
  rintro ev w' ⟨rfl, hww⟩
  obtain rfl := hww
  have hE1 := Lib.hid (show (ErrT.wrap prT ((1 : Nat) : Int) (.sent 2)).val A = .iface 61 (.agg #[.string prT, .int .i64 1, .iface 97 (.pointer (some (A 2)))]) from rfl)
  rw [show (ErrT.wrap prT 1 (.sent 2)).val A = .iface 61 (.agg #[.string prT, .int .i64 1, .iface 97 (.pointer (some (A 2)))]) from rfl]
  go_wp2_with fail
  change Calls Tryd.prog _ #[(ErrT.wrap prT 1 (.sent 2)).val A, _, _, _] _ _
  refine (is_c A (.wrap prT 1 (.sent 2)) 3 prT 1 _ (HS.out.below hBw12) ⟨rfl, show (2 : Nat) < 10 by omega⟩ (by omega) (by omega)).mono ?_
  rintro ev w13 ⟨rfl, hb13⟩
  rw [show isK (.wrap prT 1 (.sent 2)) 3 prT 1 = true by simp [isK, ErrT.code]]
  have HB13 := Lib.hid (HB12.out.below hb13)
  have HC13 := Lib.hid (HC12.out.below hb13)
  have hBw13 := hBw12.trans (hb13.mono hBw12.size)
  clear hb13 hBw12
  go_wp2_with fail
  refine (wrong_c A b2 v2 _ _ _ w13 HB13.out).mono ?_
  rintro ev w' ⟨rfl, hww⟩
  obtain rfl := hww
  rw [show (ErrT.wrap prT 0 (.sent 3)).val A = .iface 61 (.agg #[.string prT, .int .i64 0, .iface 97 (.pointer (some (A 3)))]) from rfl]
  go_wp2_with fail
  change Calls Tryd.prog _ #[(ErrT.wrap prT 0 (.sent 3)).val A, _, _, _] _ _
  refine (is_c A (.wrap prT 0 (.sent 3)) 4 prT 0 _ (HS.out.below hBw13) ⟨rfl, show (3 : Nat) < 10 by omega⟩ (by omega) (by omega)).mono ?_
  rintro ev w14 ⟨rfl, hb14⟩
  rw [show isK (.wrap prT 0 (.sent 3)) 4 prT 0 = true by simp [isK, ErrT.code]]
  have HC14 := Lib.hid (HC13.out.below hb14)
  have hBw14 := hBw13.trans (hb14.mono hBw13.size)
  clear hb14 hBw13
  go_wp2_with fail
  refine (rend_c A b3 v3 [2] 0 .nil w14 (HS.out.below hBw14) HC14.out).mono ?_
  rintro ev w15 ⟨rfl, hC15, hM15⟩
  have he15 : endE [2] 0 .nil = .wrap prT 0 (.sent 4) := by rfl
  rw [he15, show (ErrT.wrap prT 0 (.sent 4)).val A = .iface 61 (.agg #[.string prT, .int .i64 0, .iface 97 (.pointer (some (A 4)))]) from rfl]
  have hBw15 := hBw14.trans (hM15.onlyB (by omega) HC14.out.lt)
  clear hC15 hM15 he15 hBw14
  go_wp2_with fail
  change Calls Tryd.prog _ #[(ErrT.wrap prT 0 (.sent 4)).val A, _, _, _] _ _
  refine (is_c A (.wrap prT 0 (.sent 4)) 5 prT 0 _ (HS.out.below hBw15) ⟨rfl, show (4 : Nat) < 10 by omega⟩ (by omega) (by omega)).mono ?_
  rintro ev w16 ⟨rfl, hb16⟩
  rw [show isK (.wrap prT 0 (.sent 4)) 5 prT 0 = true by simp [isK, ErrT.code]]
  go_wp2_with fail
  go_ret
  exact ⟨rfl, hBw15.trans (hb16.mono hBw15.size)⟩

end Go.Proofs.YthmgccakhhggjaaDoor
