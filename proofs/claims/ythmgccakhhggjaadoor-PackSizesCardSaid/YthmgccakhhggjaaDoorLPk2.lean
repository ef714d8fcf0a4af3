/- PackSizes: true; no condition but what a start gives. -/
import Derived.Test.YthmgccakhhggjaaDoorLPk1
namespace Go.Proofs.YthmgccakhhggjaaDoor
open Go.RowKit Go.Extern.Stop Go.Stop Go.Extern

theorem enc_mono : ∀ (k u v : Nat), u ≤ v → v < 128 ^ k → (enc u).length ≤ (enc v).length
  | 0, u, v, h, hv => by
    have : u = v := by omega
    subst this
    exact Nat.le_refl _
  | k + 1, u, v, h, hv => by
    by_cases hu : u < 128
    · rw [enc_small hu]
      exact enc_pos v
    · have hv2 : ¬ v < 128 := by omega
      rw [enc_more hu, enc_more hv2]
      simp only [List.length_cons, Nat.add_le_add_iff_right]
      exact enc_mono k (u / 128) (v / 128) (by omega) (by rw [Nat.pow_succ] at hv; omega)
theorem enc_pair (k : Nat) : (enc (2 * k + 1)).length = (enc (2 * k)).length := by
  by_cases h : 2 * k < 128
  · rw [enc_small h, enc_small (by omega)]
    rfl
  · rw [enc_more h, enc_more (by omega), show (2 * k + 1) / 128 = 2 * k / 128 by omega]
    rfl
theorem enc_mirror (n : Int) : (enc (zig (-n - 1))).length = (enc (zig n)).length := by
  by_cases h : 0 ≤ n
  · obtain ⟨k, rfl⟩ := Int.eq_ofNat_of_zero_le h
    rw [show zig (-(k : Int) - 1) = 2 * k + 1 by unfold zig; rw [if_neg (by omega)]; omega, show zig (k : Int) = 2 * k by unfold zig; rw [if_pos (by omega)]; omega]
    exact enc_pair k
  · obtain ⟨k, hk⟩ : ∃ k : Nat, n = -(k : Int) - 1 := ⟨(-n - 1).toNat, by omega⟩
    subst hk
    rw [show zig (-(-(k : Int) - 1) - 1) = 2 * k by unfold zig; rw [if_pos (by omega)]; omega, show zig (-(k : Int) - 1) = 2 * k + 1 by unfold zig; rw [if_neg (by omega)]; omega]
    exact (enc_pair k).symm

theorem not_bits {a : Int} (h : -9223372036854775808 ≤ a ∧ a ≤ 9223372036854775807) : bits BinOp.xor IntKind.i64 (-1) a = -a - 1 := by
  have e : ∀ x y : Int, bits .xor .i64 x y = IntKind.i64.wrap ((BitVec.ofInt 64 x ^^^ BitVec.ofInt 64 y).toNat : Int) := fun _ _ => rfl
  have hw : ∀ m : Int, IntKind.i64.wrap m = wrap64 m := fun m => by
    unfold IntKind.wrap wrap64
    rw [show IntKind.i64.signed = true from rfl, show IntKind.i64.bits = 64 from rfl]
    simp
    split <;> omega
  rw [e, hw, show BitVec.ofInt 64 (-1) = BitVec.allOnes 64 by decide, BitVec.allOnes_xor, BitVec.toNat_not, BitVec.toNat_ofInt]
  unfold wrap64
  omega

set_option maxRecDepth 100000 in
set_option maxHeartbeats 4000000 in
theorem packSizes (A : Nat → Addr) (a b : Int) (w : World) (hs : SentAt w A) (b0 : -9223372036854775808 ≤ a ∧ a ≤ 9223372036854775807) (b1 : -9223372036854775808 ≤ b ∧ b ≤ 9223372036854775807) :
    Calls Tryd.prog 5 #[.int .i64 a, .int .i64 b] w (TruePost w) := by
  have HS := Lib.hid hs
  clear hs
  have hla := enc_len10 (zig_lt b0)
  have hpa := enc_pos (zig a)
  have hm := enc_mirror a
  have hmono : 0 ≤ a → 0 ≤ b → a ≤ b → (enc (zig a)).length ≤ (enc (zig b)).length := fun h1 h2 h3 => enc_mono 10 _ _ (by unfold zig; rw [if_pos h1, if_pos h2]; omega) (Nat.lt_of_lt_of_le (zig_lt b1) (by omega))
  have HB0 := Lib.hid b0
  have HB1 := Lib.hid b1
  have HM := Lib.hid hm
  generalize hX : (enc (zig a)).length = la at *
  generalize hY : (enc (zig b)).length = lb at *
  have HX := Lib.hid hX
  have HY := Lib.hid hY
  have HMO := Lib.hid hmono
  clear hX hY hm hmono b0 b1
  go_enter Tryd.func5, Tryd.ntmps5
  go_wp2_with fail
  refine (num_c _ [] a w (slc_nilB w) HB0.out (by simp)).mono ?_
  rintro ev w1 ⟨u1, rfl, hu1, hb1⟩
  obtain ⟨ad1, cap1, rfl⟩ := hu1.len
  rw [HX.out]
  simp only [List.length_nil, Nat.zero_add]
  clear hu1
  go_wp2_with fail
  refine (num_c _ [] b w1 (slc_nilB w1) HB1.out (by simp)).mono ?_
  rintro ev w2 ⟨u2, rfl, hu2, hb2⟩
  obtain ⟨ad2, cap2, rfl⟩ := hu2.len
  rw [HY.out]
  simp only [List.length_nil, Nat.zero_add]
  have hB2 := hb1.trans (hb2.mono hb1.size)
  clear hu2 hb1 hb2
  have g1 : decide ((la : Int) ≥ 1) = true := by simp; omega
  have g2 : decide ((la : Int) ≤ 10) = true := by simp; omega
  have HALL := Lib.hid (show ((a < 0 ∨ b < 0) ∨ b < a) ∨ la ≤ lb by
    have := HMO.out
    by_cases h1 : a < 0
    · exact .inl (.inl (.inl h1))
    · by_cases h2 : b < 0
      · exact .inl (.inl (.inr h2))
      · by_cases h3 : b < a
        · exact .inl (.inr h3)
        · exact .inr (this (by omega) (by omega) (by omega)))
  have HBO := Lib.hid (show (decide (a < 0) || decide (b < 0) || decide (b < a) || decide (la ≤ lb)) = true by
    rcases HALL.out with ((h | h) | h) | h <;> simp [h])
  go_wp2_with fail
  all_goals first
    | exact absurd HALL.out (by assumption)
    | (rw [not_bits HB0.out]
       refine (num_c _ [] (-a - 1) w2 (slc_nilB w2) (by have := HB0.out; omega) (by simp)).mono ?_
       rintro ev w3 ⟨u3, rfl, hu3, hb3⟩
       obtain ⟨ad3, cap3, rfl⟩ := hu3.len
       rw [HM.out]
       simp only [List.length_nil, Nat.zero_add]
       have hB3 := hB2.trans (hb3.mono hB2.size)
       clear hu3 hb3)
  all_goals
    go_wp2_with fail
    refine (packRuns A w3 (HS.out.below hB3)).mono ?_
    rintro ev w4 ⟨rfl, hb4⟩
    go_wp2_with fail
    try rw [HBO.out]
    go_ret
    exact ⟨rfl, hB3.trans (hb4.mono hB3.size)⟩

end Go.Proofs.YthmgccakhhggjaaDoor
