/- The bit operations of numbers, as arithmetic. -/
import Derived.Test.YtpljdbcifaeblaaDoorBase
namespace Go.Proofs.YtpljdbcifaeblaaDoor
open Go Go.RowKit

theorem wrap_u64 (m : Int) : IntKind.u64.wrap m = m % 18446744073709551616 := by
  unfold IntKind.wrap
  rw [show IntKind.u64.signed = false from rfl, show IntKind.u64.bits = 64 from rfl]
  simp
theorem wrap_u8 (m : Int) : IntKind.u8.wrap m = m % 256 := by
  unfold IntKind.wrap
  rw [show IntKind.u8.signed = false from rfl, show IntKind.u8.bits = 8 from rfl]
  simp
theorem wrap_u64_nat {x : Nat} (h : x < 18446744073709551616) : IntKind.u64.wrap (x : Int) = (x : Int) := by rw [wrap_u64]; omega
theorem wrap_u8_nat {x : Nat} (h : x < 256) : IntKind.u8.wrap (x : Int) = (x : Int) := by rw [wrap_u8]; omega

theorem bits_or_u8 {x y : Nat} (hx : x < 256) (hy : y < 256) : bits .or .u8 (x : Int) (y : Int) = ((x ||| y : Nat) : Int) := by
  have e : bits .or .u8 (x : Int) (y : Int) = IntKind.u8.wrap ((BitVec.ofInt 8 (x : Int) ||| BitVec.ofInt 8 (y : Int)).toNat : Int) := rfl
  rw [e, BitVec.toNat_or, BitVec.ofInt_natCast, BitVec.ofInt_natCast, BitVec.toNat_ofNat, BitVec.toNat_ofNat, Nat.mod_eq_of_lt hx, Nat.mod_eq_of_lt hy, wrap_u8_nat (Nat.or_lt_two_pow (n := 8) hx hy)]
theorem bits_and_u8 {x y : Nat} (hx : x < 256) (hy : y < 256) : bits .and .u8 (x : Int) (y : Int) = ((x &&& y : Nat) : Int) := by
  have e : bits .and .u8 (x : Int) (y : Int) = IntKind.u8.wrap ((BitVec.ofInt 8 (x : Int) &&& BitVec.ofInt 8 (y : Int)).toNat : Int) := rfl
  rw [e, BitVec.toNat_and, BitVec.ofInt_natCast, BitVec.ofInt_natCast, BitVec.toNat_ofNat, BitVec.toNat_ofNat, Nat.mod_eq_of_lt hx, Nat.mod_eq_of_lt hy, wrap_u8_nat (Nat.and_lt_two_pow (n := 8) x hy)]
theorem bits_or_u64 {x y : Nat} (hx : x < 18446744073709551616) (hy : y < 18446744073709551616) : bits .or .u64 (x : Int) (y : Int) = ((x ||| y : Nat) : Int) := by
  have e : bits .or .u64 (x : Int) (y : Int) = IntKind.u64.wrap ((BitVec.ofInt 64 (x : Int) ||| BitVec.ofInt 64 (y : Int)).toNat : Int) := rfl
  rw [e, BitVec.toNat_or, BitVec.ofInt_natCast, BitVec.ofInt_natCast, BitVec.toNat_ofNat, BitVec.toNat_ofNat, Nat.mod_eq_of_lt hx, Nat.mod_eq_of_lt hy, wrap_u64_nat (Nat.or_lt_two_pow (n := 64) hx hy)]
theorem bits_and_u64 {x y : Nat} (hx : x < 18446744073709551616) (hy : y < 18446744073709551616) : bits .and .u64 (x : Int) (y : Int) = ((x &&& y : Nat) : Int) := by
  have e : bits .and .u64 (x : Int) (y : Int) = IntKind.u64.wrap ((BitVec.ofInt 64 (x : Int) &&& BitVec.ofInt 64 (y : Int)).toNat : Int) := rfl
  rw [e, BitVec.toNat_and, BitVec.ofInt_natCast, BitVec.ofInt_natCast, BitVec.toNat_ofNat, BitVec.toNat_ofNat, Nat.mod_eq_of_lt hx, Nat.mod_eq_of_lt hy, wrap_u64_nat (Nat.and_lt_two_pow (n := 64) x hy)]

theorem or128 : ∀ x : Nat, x < 256 → x ||| 128 = x % 128 + 128 := by decide +kernel

/-- A number, mirrored: what stands in its bytes. -/
def zig (n : Int) : Nat := if 0 ≤ n then (2 * n).toNat else (-2 * n - 1).toNat
theorem zig_lt {n : Int} (h : -9223372036854775808 ≤ n ∧ n ≤ 9223372036854775807) : zig n < 18446744073709551616 := by
  unfold zig
  split <;> omega
theorem zig_bits {n : Int} (h : -9223372036854775808 ≤ n ∧ n ≤ 9223372036854775807) : bits BinOp.xor IntKind.u64 (IntKind.u64.wrap (IntKind.u64.wrap n * 2)) (IntKind.u64.wrap (n / 9223372036854775808)) = (zig n : Int) := by
  have e : ∀ x y : Int, bits .xor .u64 x y = IntKind.u64.wrap ((BitVec.ofInt 64 x ^^^ BitVec.ofInt 64 y).toNat : Int) := fun _ _ => rfl
  rw [e, wrap_u64 (n / 9223372036854775808), wrap_u64 n, wrap_u64 (_ * 2)]
  unfold zig
  by_cases hn : 0 ≤ n
  · rw [if_pos hn, show n / 9223372036854775808 % 18446744073709551616 = 0 by omega, show BitVec.ofInt 64 0 = 0#64 by decide, BitVec.xor_zero, BitVec.toNat_ofInt, wrap_u64]
    omega
  · rw [if_neg hn, show n / 9223372036854775808 % 18446744073709551616 = 18446744073709551615 by omega, show BitVec.ofInt 64 18446744073709551615 = BitVec.allOnes 64 by decide, BitVec.xor_allOnes, BitVec.toNat_not, BitVec.toNat_ofInt, wrap_u64]
    omega

end Go.Proofs.YtpljdbcifaeblaaDoor
