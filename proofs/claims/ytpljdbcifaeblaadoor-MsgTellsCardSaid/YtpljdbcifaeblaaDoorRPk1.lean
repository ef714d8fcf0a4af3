/- The document's own Num (assentref1): the bytes of a number. -/
import Derived.Test.YtpljdbcifaeblaaDoorPk5
import Derived.Test.YtpljdbcifaeblaaDoorWin2
namespace Go.Proofs.YtpljdbcifaeblaaDoor
open Go.RowKit Go.Extern.Stop Go.Stop Go.Extern

theorem winRow_made (w : World) (e : TypeId) (size : Nat) : winRow (w.alloc (.cells #[] e)) w.heap.size e size (.slice (some ⟨w.heap.size, 0, none⟩) 0 0) 0 [] :=
  .of_owns (by simpa using World.ownsRow_made w (size := size) #[] 0 (Nat.le_refl _) (Nat.zero_le _) (by simp))

theorem two_pos {n : Int} (h0 : 0 ≤ n) (h : n ≤ 9223372036854775807) : IntKind.u64.wrap (IntKind.u64.wrap n * 2) = (zig n : Int) := by
  rw [wrap_u64, wrap_u64]
  unfold zig
  rw [if_pos h0]
  omega
theorem or1 (x : Nat) : 2 * x ||| 1 = 2 * x + 1 := by
  have := Nat.two_pow_add_eq_or_of_lt (i := 1) (b := 1) (by omega) x
  rw [show (2 : Nat) ^ 1 = 2 from rfl] at this
  omega
theorem and127or128 {x c : Nat} (hx : x < 18446744073709551616) (hc : c = x % 128 + 128) : bits BinOp.or IntKind.u8 (bits BinOp.and IntKind.u64 (x : Int) 127 % 256) 128 = (c : Int) := by
  rw [show (127 : Int) = ((127 : Nat) : Int) from rfl, bits_and_u64 hx (by omega), show x &&& 127 = x % 128 from Nat.and_two_pow_sub_one_eq_mod x 7, show ((x % 128 : Nat) : Int) % 256 = ((x % 128 : Nat) : Int) by omega, show (128 : Int) = ((128 : Nat) : Int) from rfl, bits_or_u8 (by omega) (by omega), or128 _ (by omega), hc]
  omega
theorem notb {a : Int} (h : -9223372036854775808 ≤ a ∧ a ≤ 9223372036854775807) : bits BinOp.xor IntKind.i64 (-1) a = -a - 1 := by
  have e : bits BinOp.xor IntKind.i64 (-1) a = IntKind.i64.wrap ((BitVec.ofInt 64 (-1) ^^^ BitVec.ofInt 64 a).toNat : Int) := rfl
  rw [e, show BitVec.ofInt 64 (-1) = BitVec.allOnes 64 by decide, BitVec.allOnes_xor, BitVec.toNat_not, BitVec.toNat_ofInt]
  unfold IntKind.wrap
  rw [show IntKind.i64.signed = true from rfl, show IntKind.i64.bits = 64 from rfl]
  simp
  omega
theorem two_neg {n : Int} (h0 : n < 0) (h : -9223372036854775808 ≤ n) : bits BinOp.or IntKind.u64 (IntKind.u64.wrap (IntKind.u64.wrap (bits BinOp.xor IntKind.i64 (-1) n) * 2)) 1 = (zig n : Int) := by
  rw [notb ⟨h, by omega⟩]
  obtain ⟨k, hk⟩ : ∃ k : Nat, -n - 1 = (k : Int) := ⟨(-n - 1).toNat, by omega⟩
  rw [hk, wrap_u64_nat (by omega), show ((k : Int) * 2) = ((2 * k : Nat) : Int) by omega, wrap_u64_nat (by omega), show (1 : Int) = ((1 : Nat) : Int) from rfl, bits_or_u64 (by omega) (by omega), or1]
  unfold zig
  rw [if_neg (by omega)]
  omega

set_option maxRecDepth 100000 in
set_option maxHeartbeats 2000000 in
theorem rNum_c (v : Value) (L : List Nat) (n : Int) (w : World) (hv : slc w 1 v L.length (byteV L)) (hn : -9223372036854775808 ≤ n ∧ n ≤ 9223372036854775807) (hbig : L.length ≤ 140737488355300) :
    Calls Tryd.prog 50 #[v, .int .i64 n] w fun ev w' => ∃ u, ev = .returned u ∧ winRow w' w.heap.size 5 1 u (L.length + (enc (zig n)).length) (byteV (L ++ enc (zig n))) ∧ Below w.heap.size w w' := by
  obtain ⟨i0, hi0, hi1⟩ := Option.map_eq_some_iff.1 nInfoB
  simp only [Prod.mk.injEq] at hi1
  obtain ⟨hz0, hz1, hz2⟩ := hi1
  have HI := Lib.hid hi0
  have HZ0 := Lib.hid hz0
  have HZ1 := Lib.hid hz1
  have HZ2 := Lib.hid hz2
  clear hi0 hz0 hz1 hz2
  have HV := Lib.hid hv
  obtain ⟨_, ad0, cap0, rfl, _⟩ := hv
  have HZL := Lib.hid (enc_len10 (zig_lt hn))
  have hzl := zig_lt hn
  by_cases h0 : 0 ≤ n
  · have HZB := Lib.hid (two_pos h0 hn.2)
    have g0 : decide (n < 0) = false := by simp; omega
    clear hn
    go_enter Tryd.func50, Tryd.ntmps50
    go_wp2_with (at_builtin; refine wpList_append_slc _ rfl _ _ 22 rfl w.heap.size 5 i0 (.int .u8 0) 1 1 Tryd.underlying22 HI.out HZ0.out HZ1.out HZ2.out rfl (by decide) _ _ _ rfl (winRow_made w 5 1) _ L.length (byteV L) rfl (HV.out.below ((Below.refl _ _).alloc (Nat.le_refl _) _)) (byteV_one L) (by unfold maxLen; omega) (by omega) (by simp) ?_; intro u1 w1 hown hgrow hat)
    have hu1 : winRow w1 w.heap.size 5 1 u1 L.length (byteV L) := by simpa using hown
    have hB1 : Below w.heap.size w w1 := ((Below.refl _ w).alloc (Nat.le_refl _) _).grown hgrow (by simp) (by intro k hk; have hk : some w.heap.size = some k := hk; exact Nat.le_of_eq (Option.some.inj hk))
    simp only [HZB.out]
    clear hown hgrow hat
    go_loopw [5, 6] (fun s5 s6 wr => ∃ (pre : List Nat) (x : Nat), x < 18446744073709551616 ∧ s6 = .int .u64 x ∧ L ++ enc (zig n) = pre ++ enc x ∧ winRow wr w.heap.size 5 1 s5 pre.length (byteV pre) ∧ Below w.heap.size w wr) (fun _ s6 _ => (intOf s6).toNat)
    case atStart => exact ⟨L, zig n, hzl, rfl, rfl, hu1, hB1⟩
    case round =>
      clear hu1 hB1
      obtain ⟨pre, x, hx, rfl, heq, hrow, hB⟩ := hrel
      have hpl : pre.length ≤ L.length + 10 := by
        have := congrArg List.length heq
        have := HZL.out
        simp only [List.length_append] at *
        omega
      have HEQ := Lib.hid heq
      have HROW := Lib.hid hrow
      clear heq hrow
      by_cases h128 : x < 128
      · have hb : IntKind.u8.wrap (x : Int) = (x : Int) := wrap_u8_nat (by omega)
        have hg : decide ((x : Int) ≥ 128) = false := by simp; omega
        go_wp2_with (at_builtin; refine wpList_append_win _ rfl _ _ 22 rfl w.heap.size 5 i0 (.int .u8 0) 1 1 Tryd.underlying22 HI.out HZ0.out HZ1.out HZ2.out rfl (by decide) _ _ _ rfl (HROW.out.below ((Below.refl _ _).alloc (Nat.le_refl _) _)) ⟨wr.heap.size, 0, none⟩ 1 1 (byteV [x]) rfl rfl (cell_one_new _ _ _) (byteV_one _) (by omega) (by unfold maxLen; omega) (by omega) (by have := hB.size; simp; omega) ?_; intro g off cap3 w3 hrow3 hgrow3 hat3 hlt3)
        go_ret
        have hB3 : Below w.heap.size w w3 := (hB.alloc hB.size _).grown hgrow3 (by have := hB.size; simp; omega) fun q hq => (HROW.out.lt q hq).1
        have heq := HEQ.out
        rw [enc_small h128] at heq
        have hlen : L.length + (enc (zig n)).length = pre.length + 1 := by
          have := congrArg List.length heq
          simpa using this
        refine ⟨_, rfl, ?_, hB3⟩
        rw [hlen, heq, byteV_append]
        exact hrow3
      · obtain ⟨c, hc⟩ : ∃ c : Nat, c = x % 128 + 128 := ⟨_, rfl⟩
        have hb := and127or128 hx hc
        have hg : decide ((x : Int) ≥ 128) = true := by simp; omega
        have HCC := Lib.hid hc
        clear hc
        go_wp2_with (at_builtin; refine wpList_append_win _ rfl _ _ 22 rfl w.heap.size 5 i0 (.int .u8 0) 1 1 Tryd.underlying22 HI.out HZ0.out HZ1.out HZ2.out rfl (by decide) _ _ _ rfl (HROW.out.below ((Below.refl _ _).alloc (Nat.le_refl _) _)) ⟨wr.heap.size, 0, none⟩ 1 1 (byteV [c]) rfl rfl (cell_one_new _ _ _) (byteV_one _) (by omega) (by unfold maxLen; omega) (by omega) (by have := hB.size; simp; omega) ?_; intro g off cap3 w3 hrow3 hgrow3 hat3 hlt3)
        have hB3 : Below w.heap.size w w3 := (hB.alloc hB.size _).grown hgrow3 (by have := hB.size; simp; omega) fun q hq => (HROW.out.lt q hq).1
        go_roundw
        case measure => simp [intOf]; omega
        case rel =>
          refine ⟨pre ++ [c], x / 128, by omega, ?_, ?_, ?_, hB3⟩
          · rw [show (x : Int) / 128 = ((x / 128 : Nat) : Int) by omega]
          · rw [HEQ.out, enc_more h128, HCC.out, List.append_assoc]
            rfl
          · rw [byteV_append, List.length_append]
            exact hrow3
  · have HZB := Lib.hid (two_neg (by omega) hn.1)
    have g0 : decide (n < 0) = true := by simp; omega
    clear hn
    go_enter Tryd.func50, Tryd.ntmps50
    go_wp2_with (at_builtin; refine wpList_append_slc _ rfl _ _ 22 rfl w.heap.size 5 i0 (.int .u8 0) 1 1 Tryd.underlying22 HI.out HZ0.out HZ1.out HZ2.out rfl (by decide) _ _ _ rfl (winRow_made w 5 1) _ L.length (byteV L) rfl (HV.out.below ((Below.refl _ _).alloc (Nat.le_refl _) _)) (byteV_one L) (by unfold maxLen; omega) (by omega) (by simp) ?_; intro u1 w1 hown hgrow hat)
    have hu1 : winRow w1 w.heap.size 5 1 u1 L.length (byteV L) := by simpa using hown
    have hB1 : Below w.heap.size w w1 := ((Below.refl _ w).alloc (Nat.le_refl _) _).grown hgrow (by simp) (by intro k hk; have hk : some w.heap.size = some k := hk; exact Nat.le_of_eq (Option.some.inj hk))
    simp only [HZB.out]
    clear hown hgrow hat
    go_loopw [5, 6] (fun s5 s6 wr => ∃ (pre : List Nat) (x : Nat), x < 18446744073709551616 ∧ s6 = .int .u64 x ∧ L ++ enc (zig n) = pre ++ enc x ∧ winRow wr w.heap.size 5 1 s5 pre.length (byteV pre) ∧ Below w.heap.size w wr) (fun _ s6 _ => (intOf s6).toNat)
    case atStart => exact ⟨L, zig n, hzl, rfl, rfl, hu1, hB1⟩
    case round =>
      clear hu1 hB1
      obtain ⟨pre, x, hx, rfl, heq, hrow, hB⟩ := hrel
      have hpl : pre.length ≤ L.length + 10 := by
        have := congrArg List.length heq
        have := HZL.out
        simp only [List.length_append] at *
        omega
      have HEQ := Lib.hid heq
      have HROW := Lib.hid hrow
      clear heq hrow
      by_cases h128 : x < 128
      · have hb : IntKind.u8.wrap (x : Int) = (x : Int) := wrap_u8_nat (by omega)
        have hg : decide ((x : Int) ≥ 128) = false := by simp; omega
        go_wp2_with (at_builtin; refine wpList_append_win _ rfl _ _ 22 rfl w.heap.size 5 i0 (.int .u8 0) 1 1 Tryd.underlying22 HI.out HZ0.out HZ1.out HZ2.out rfl (by decide) _ _ _ rfl (HROW.out.below ((Below.refl _ _).alloc (Nat.le_refl _) _)) ⟨wr.heap.size, 0, none⟩ 1 1 (byteV [x]) rfl rfl (cell_one_new _ _ _) (byteV_one _) (by omega) (by unfold maxLen; omega) (by omega) (by have := hB.size; simp; omega) ?_; intro g off cap3 w3 hrow3 hgrow3 hat3 hlt3)
        go_ret
        have hB3 : Below w.heap.size w w3 := (hB.alloc hB.size _).grown hgrow3 (by have := hB.size; simp; omega) fun q hq => (HROW.out.lt q hq).1
        have heq := HEQ.out
        rw [enc_small h128] at heq
        have hlen : L.length + (enc (zig n)).length = pre.length + 1 := by
          have := congrArg List.length heq
          simpa using this
        refine ⟨_, rfl, ?_, hB3⟩
        rw [hlen, heq, byteV_append]
        exact hrow3
      · obtain ⟨c, hc⟩ : ∃ c : Nat, c = x % 128 + 128 := ⟨_, rfl⟩
        have hb := and127or128 hx hc
        have hg : decide ((x : Int) ≥ 128) = true := by simp; omega
        have HCC := Lib.hid hc
        clear hc
        go_wp2_with (at_builtin; refine wpList_append_win _ rfl _ _ 22 rfl w.heap.size 5 i0 (.int .u8 0) 1 1 Tryd.underlying22 HI.out HZ0.out HZ1.out HZ2.out rfl (by decide) _ _ _ rfl (HROW.out.below ((Below.refl _ _).alloc (Nat.le_refl _) _)) ⟨wr.heap.size, 0, none⟩ 1 1 (byteV [c]) rfl rfl (cell_one_new _ _ _) (byteV_one _) (by omega) (by unfold maxLen; omega) (by omega) (by have := hB.size; simp; omega) ?_; intro g off cap3 w3 hrow3 hgrow3 hat3 hlt3)
        have hB3 : Below w.heap.size w w3 := (hB.alloc hB.size _).grown hgrow3 (by have := hB.size; simp; omega) fun q hq => (HROW.out.lt q hq).1
        go_roundw
        case measure => simp [intOf]; omega
        case rel =>
          refine ⟨pre ++ [c], x / 128, by omega, ?_, ?_, ?_, hB3⟩
          · rw [show (x : Int) / 128 = ((x / 128 : Nat) : Int) by omega]
          · rw [HEQ.out, enc_more h128, HCC.out, List.append_assoc]
            rfl
          · rw [byteV_append, List.length_append]
            exact hrow3

end Go.Proofs.YtpljdbcifaeblaaDoor
