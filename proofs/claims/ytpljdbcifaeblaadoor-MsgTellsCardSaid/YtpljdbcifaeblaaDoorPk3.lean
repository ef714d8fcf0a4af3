/- One byte more of a number. -/
import Derived.Test.YtpljdbcifaeblaaDoorPk0
namespace Go.Proofs.YtpljdbcifaeblaaDoor
open Go Go.RowKit

theorem and127 : ∀ x : Nat, x < 256 → x &&& 127 = x % 128 := by decide +kernel
theorem pow7 {i : Nat} (h : i ≤ 9) : 2 ^ (7 * i) ≤ 9223372036854775808 := by
  have : 2 ^ (7 * i) ≤ 2 ^ 63 := Nat.pow_le_pow_right (by omega) (by omega)
  omega
theorem pow7' {i : Nat} (h : i ≤ 8) : 2 ^ (7 * i) ≤ 72057594037927936 := by
  have : 2 ^ (7 * i) ≤ 2 ^ 56 := Nat.pow_le_pow_right (by omega) (by omega)
  omega
theorem part_lt {c i : Nat} (hi : i ≤ 9) (hc : i = 9 → c ≤ 1) : c % 128 * 2 ^ (7 * i) ≤ 9223372036854775808 := by
  by_cases h : i = 9
  · have := hc h
    subst h
    rw [show (2 : Nat) ^ (7 * 9) = 9223372036854775808 by decide]
    omega
  · have := Nat.mul_le_mul (show c % 128 ≤ 127 by omega) (pow7' (show i ≤ 8 by omega))
    omega
theorem or_step {c i u : Nat} (hc : c < 256) (hi : i ≤ 9) (hu : u < 2 ^ (7 * i)) (h9 : i = 9 → c ≤ 1) :
    bits BinOp.or IntKind.u64 (u : Int) (IntKind.u64.wrap (IntKind.u64.wrap (bits BinOp.and IntKind.u8 (c : Int) 127) * 2 ^ (7 * i))) = ((u + c % 128 * 2 ^ (7 * i) : Nat) : Int) := by
  have hp := part_lt hi h9
  have hp7 := pow7 hi
  rw [show (127 : Int) = ((127 : Nat) : Int) from rfl, bits_and_u8 hc (by omega), and127 c hc, wrap_u64_nat (by omega), show ((c % 128 : Nat) : Int) * 2 ^ (7 * i) = ((c % 128 * 2 ^ (7 * i) : Nat) : Int) by push_cast; rfl, wrap_u64_nat (by omega), bits_or_u64 (by omega) (by omega)]
  congr 1
  rw [Nat.or_comm, Nat.mul_comm, ← Nat.two_pow_add_eq_or_of_lt hu, Nat.add_comm]
theorem step_lt {c i u : Nat} (_hi : i ≤ 8) (hu : u < 2 ^ (7 * i)) : u + c % 128 * 2 ^ (7 * i) < 2 ^ (7 * (i + 1)) := by
  have h1 : c % 128 * 2 ^ (7 * i) ≤ 127 * 2 ^ (7 * i) := Nat.mul_le_mul_right _ (by omega)
  have h2 : 2 ^ (7 * (i + 1)) = 128 * 2 ^ (7 * i) := by rw [Nat.mul_add, Nat.pow_add, Nat.mul_comm]
  omega
theorem step_lt64 {c i u : Nat} (hi : i ≤ 9) (hu : u < 2 ^ (7 * i)) (h9 : i = 9 → c ≤ 1) : u + c % 128 * 2 ^ (7 * i) < 18446744073709551616 := by
  have hp := part_lt hi h9
  have hp7 := pow7 hi
  omega

/-- What stands in a number's bytes, turned back. -/
def unzig (u : Nat) : Int := if u % 2 = 0 then (u / 2 : Nat) else -((u / 2 : Nat) : Int) - 1
theorem and1 (u : Nat) : u &&& 1 = u % 2 := Nat.and_one_is_mod u
theorem unzig_bits {u : Nat} (h : u < 18446744073709551616) : bits BinOp.xor IntKind.i64 ((u : Int) / 2) (wrap64 (-(wrap64 (bits BinOp.and IntKind.u64 (u : Int) 1)))) = unzig u := by
  rw [show (1 : Int) = ((1 : Nat) : Int) from rfl, bits_and_u64 h (by omega), and1, IntWalk.wrap64_in ((u % 2 : Nat) : Int) (by omega)]
  have e : ∀ x y : Int, bits .xor .i64 x y = IntKind.i64.wrap ((BitVec.ofInt 64 x ^^^ BitVec.ofInt 64 y).toNat : Int) := fun _ _ => rfl
  have hw : ∀ m : Int, IntKind.i64.wrap m = wrap64 m := fun m => by
    unfold IntKind.wrap wrap64
    rw [show IntKind.i64.signed = true from rfl, show IntKind.i64.bits = 64 from rfl]
    simp
    split <;> omega
  rw [e, hw]
  unfold unzig
  rcases Nat.mod_two_eq_zero_or_one u with h2 | h2
  · rw [h2, if_pos rfl, show wrap64 (-((0 : Nat) : Int)) = 0 from IntWalk.wrap64_in _ (by omega), show BitVec.ofInt 64 0 = 0#64 by decide, BitVec.xor_zero, BitVec.toNat_ofInt, IntWalk.wrap64_in _ (by omega)]
    omega
  · rw [h2, if_neg (by omega), show wrap64 (-((1 : Nat) : Int)) = -1 from IntWalk.wrap64_in _ (by omega), show BitVec.ofInt 64 (-1) = BitVec.allOnes 64 by decide, BitVec.xor_allOnes, BitVec.toNat_not, BitVec.toNat_ofInt]
    unfold wrap64
    omega

end Go.Proofs.YtpljdbcifaeblaaDoor
